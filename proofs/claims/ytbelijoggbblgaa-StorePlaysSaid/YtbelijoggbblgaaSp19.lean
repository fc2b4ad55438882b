import Derived.Test.YtbelijoggbblgaaSp16
import Derived.Deep.RegionLaw
namespace Go.Proofs.Ytbelijoggbblgaa.Sp
open Go.RowKit Go.Proofs.YtbelijoggbblgaaW.PrintWords Go.Proofs.YtbelijoggbblgaaW.PrintLast Go.Proofs.YtbelijoggbblgaaW.PrintMore Go.Proofs.Ytbelijoggbblgaa.PStorePlays Go.Proofs.Ytbelijoggbblgaa.St
set_option linter.unusedVariables false
set_option linter.unusedSimpArgs false
theorem Lf_some {w : World} {base t : Nat} {tag : Nat → Nat} {v : Value} {l : List Int} (hl : Lf w base tag t v l) (i : Nat) (hi : i < l.length) : ∃ b c, v = .slice (some ⟨b, 0, none⟩) l.length c ∧ w.cell? ⟨b, i, none⟩ = some (.int .i64 (rdOf 0 l i)) ∧ w.frozen? ⟨b, i, none⟩ = false := by
  obtain ⟨A, c, rfl⟩ := Kd.R_slice hl
  cases A with
  | none =>
    obtain ⟨A2, c2, e8, _, hC⟩ := Kd.R_reads hl
    obtain ⟨ad, e9, _⟩ := hC.2.2 (by omega)
    injection e8 with e8
    rw [← e8] at e9; cases e9
  | some ad =>
    obtain ⟨b, rfl, hz⟩ := R_some hl
    obtain ⟨q0, q1⟩ := Kd.R_cell (0 : Int) hl i (by omega) (by omega)
    rw [Int.toNat_natCast] at q0 q1
    exact ⟨b, c, rfl, q0, q1⟩
set_option maxHeartbeats 8000000 in
set_option maxRecDepth 100000 in
theorem one_st_in {w W0 : World} {base s m : Nat} {F : List S32} {L : List (List Int × Int)} {N : List (Nat × Int)} {G : List S41} (h : Pl w W0 base s m F L N G) (hsm : s ≠ m) (hb : base ≤ w.heap.size) (hW : Below W0.heap.size W0 w) (h0 : W0.heap.size ≤ s) (h1 : W0.heap.size ≤ m) (hlG : L.length ≤ 90)
    (what : Int) (n i : Nat) {P : Option Addr} {cp : Nat} {R : Option Addr} {cr : Nat} {np nr : Nat} (inst fn ans lo hi : Int) (has : Bool) (ty : Int) (mu : Bool) (v : Int)
    (hp : grommetlaw16_pick.f what 6 = some 4) (hn : n < L.length) (p : List Int × Int) (hx : L[n]? = some p) (hi9 : i < p.1.length) :
    Calls Try.prog 20 #[.pointer (some ⟨s, 0, none⟩), .pointer (some ⟨m, 0, none⟩), .agg (D14 what n i P np cp R nr cr inst fn ans lo hi has ty mu v)] w fun e w' => e = .returned (.bool true) ∧ ODone w w' W0 base s m F L N G := by
  obtain ⟨tag, vF, vT, vM, vG, T, M, uF, uT, uX, uM, uG, F', T', M', hS, hM⟩ := h
  have CP := Aside0.mk (fun W : World => grommetlaw16_pick.calls what 6 4 W hp)
  have HS := Aside0.mk hS
  have HM := Aside0.mk hM
  have HW := Aside0.mk hW
  have hml := hM.md.lo
  have hsl := hS.st.lo
  have hb1 := fun nd => show Below w.heap.size w ((w.alloc (Obj.cells (D14 what n i P np cp R nr cr inst fn ans lo hi has ty mu v) 43)).drewN nd) from pw_below_drewN (below_alloc (Below.refl _ _) _) _
  obtain ⟨AT, cT, rfl⟩ := Kd.R_slice hM.md.t
  clear hS hM hW hp
  go_enter Try.func20, Try.ntmps20
  go_upto_region 12 with (go_at_call 10; (refine (CP.out _).mono ?_); rintro e w1 ⟨rfl, ⟨nd, rfl⟩⟩)
  obtain ⟨w2, hw2⟩ : ∃ w2, w2 = ((w.alloc (Obj.cells (D14 what n i P np cp R nr cr inst fn ans lo hi has ty mu v) 43)).drewN nd) := ⟨_, rfl⟩
  have hB2 := hb1 nd
  have r0 : Row w2 w.heap.size 43 (D14 what n i P np cp R nr cr inst fn ans lo hi has ty mu v) := by rw [hw2]; exact Row.drewN (Row.made w _ _ rfl) nd
  rw [← hw2] at hB2 ⊢
  clear hw2 hb1 CP
  have b1 : w2.cell? ⟨w.heap.size, 1, none⟩ = some (.int .i64 n) := r0.cell 1
  have b2 : w2.cell? ⟨w.heap.size, 2, none⟩ = some (.int .i64 i) := r0.cell 2
  have b3 : w2.cell? ⟨w.heap.size, 6, none⟩ = some (.int .i64 fn) := r0.cell 6
  have hM2 := HM.out.begin hB2
  have hS2 := HS.out.begin hB2
  have ht0 := tag0_new w tag w.heap.size (Nat.le_refl _)
  obtain ⟨tg, htg⟩ : ∃ t, t = tag0 w tag := ⟨_, rfl⟩
  rw [← htg] at hS2 hM2 ht0
  have p0 : w2.cell? ⟨m, 1, none⟩ = some (.slice AT T'.length cT) := hM2.md.row.cell 1
  obtain ⟨v1, e1, hl⟩ := hM2.ta n p hx
  obtain ⟨b, c, rfl, q2, q3⟩ := Lf_some hl i hi9
  obtain ⟨A2, c2, e2, _, hC⟩ := Kd.R_reads hM2.md.t
  have e3 : AT = A2 := by injection e2
  rw [← e3] at hC
  clear e2 e3
  obtain ⟨ad, rfl, q1⟩ := raw1_at hC n (by rw [hM2.tl]; exact hn) _ e1
  have d0 : decide ((0 : Int) ≤ (n : Int)) = true := decide_eq_true (by omega)
  have d1 : decide ((n : Int) < (T'.length : Int)) = true := decide_eq_true (by rw [hM2.tl]; omega)
  have d2 : decide ((0 : Int) ≤ (i : Int)) = true := decide_eq_true (by omega)
  have d3 : decide ((i : Int) < (p.1.length : Int)) = true := decide_eq_true (by omega)
  have j0 : (0 : Int) ≤ (n : Int) := by omega
  have j1 : (n : Int) < (T'.length : Int) := by rw [hM2.tl]; omega
  have j2 : (0 : Int) ≤ (i : Int) := by omega
  have j3 : (i : Int) < (p.1.length : Int) := by omega
  have hsz2 : w.heap.size < w2.heap.size := r0.lt
  have HM2 := Aside0.mk hM2
  have HS2 := Aside0.mk hS2
  have HB2 := Aside0.mk hB2
  have HT0 := Aside0.mk ht0
  have HR0 := Aside0.mk r0
  have HL := Aside0.mk hl
  have HE := Aside0.mk e1
  have HX := Aside0.mk hx
  clear hB2 r0 hM2 hS2 ht0 htg hC HS HM hl e1 hx
  go_quiet (fail)
  go_upto_region 14 with fail
  go_region_law (fail)
  all_goals
    have hB3 : Below w2.heap.size w2 (w2.drewN (nq + 1)) := pw_below_drewN (Below.refl _ _) _
    obtain ⟨⟨tg1, uF1, uT1, uX1, uM1, uG1, F1, T1, M1, e1, hM4⟩, hO4⟩ := mh_setT (HM2.out.below hB3) n hn p HX.out HE.out (Kd.R_drewN HL.out (nq + 1)) i fn
    have hS4 := (HS2.out.below hB3).other hO4 hsm hml e1
    have r4 := Row.same (Row.drewN HR0.out (nq + 1)) (hO4.keep hsz2 HT0.out (by omega))
    have hB4 : Below W0.heap.size w _ := ((below_mono HB2.out HW.out.size).trans (below_mono hB3 (Nat.le_trans HW.out.size HB2.out.size))).trans (hO4.below (Nat.le_trans HW.out.size HB2.out.size) h1 (by omega))
    have hsz4 : w2.heap.size ≤ _ := hO4.size
    obtain ⟨w4, hw4⟩ : ∃ w4, w4 = (w2.drewN (nq + 1)).setCell ⟨b, i, none⟩ (.int .i64 fn) := ⟨_, rfl⟩
    rw [← hw4] at hM4 hS4 r4 hB4 hsz4 ⊢
    have l4 : base ≤ w4.heap.size := Nat.le_trans hb (Nat.le_trans (Nat.le_of_lt hsz2) hsz4)
    have d4 : w4.cell? ⟨w.heap.size, 1, none⟩ = some (.int .i64 n) := r4.cell 1
    have d5 : w4.cell? ⟨w.heap.size, 2, none⟩ = some (.int .i64 i) := r4.cell 2
    have d6 : w4.cell? ⟨w.heap.size, 6, none⟩ = some (.int .i64 fn) := r4.cell 6
    have HC := Aside0.mk (sh_setTable hS4 n hn p HX.out i hi9 fn)
    have HM4 := Aside0.mk hM4
    have HB4 := Aside0.mk hB4
    have LB4 := Aside0.mk l4
    clear hM4 hS4 hO4 hB4 r4 hw4 l4 hsz4 hB3 e1 p0 q1 q2 q3 b1 b2 b3 HM2 HS2
    go_wp2_with (go_at_call 35; (refine HC.out.mono ?_); rintro e w5 ⟨rfl, hD5⟩; have HD5 := Aside0.mk hD5; clear hD5)
    go_ret
    obtain ⟨⟨tg2, _, _, _, _, _, _, e2, hS5⟩, hO5⟩ := HD5.out
    exact ⟨rfl, ⟨F, _, N, G, ⟨_, _, _, _, _, _, _, _, _, _, _, _, _, _, _, hS5, HM4.out.other hO5 (fun e => hsm e.symm) hsl e2⟩, by omega, by rw [List.length_set]; omega, by omega, by omega⟩, HB4.out.trans (hO5.below (by have := LB4.out; omega) h0 (by omega))⟩
end Go.Proofs.Ytbelijoggbblgaa.Sp
