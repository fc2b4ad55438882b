import Derived.Test.YtbelijoggbblgaaSp13
namespace Go.Proofs.Ytbelijoggbblgaa.Sp
open Go.RowKit Go.Proofs.YtbelijoggbblgaaW.PrintWords Go.Proofs.YtbelijoggbblgaaW.PrintLast Go.Proofs.YtbelijoggbblgaaW.PrintMore Go.Proofs.Ytbelijoggbblgaa.PStorePlays Go.Proofs.Ytbelijoggbblgaa.St
set_option linter.unusedVariables false
set_option linter.unusedSimpArgs false
set_option maxHeartbeats 4000000 in
set_option maxRecDepth 100000 in
theorem one_glob {w W0 : World} {base s m : Nat} {F : List S32} {L : List (List Int × Int)} {N : List (Nat × Int)} {G : List S41} (h : Pl w W0 base s m F L N G) (hsm : s ≠ m) (hb : base ≤ w.heap.size) (hW : Below W0.heap.size W0 w) (h0 : W0.heap.size ≤ s) (h1 : W0.heap.size ≤ m) (hlF : G.length ≤ 90)
    (what n1 at_ : Int) {P : Option Addr} {cp : Nat} {R : Option Addr} {cr : Nat} {ps rs : List Int} (inst fn ans lo hi : Int) (has : Bool) (ty : Int) (mu : Bool) (v : Int)
    (hP : I64.C W0 P ps.length ps) (lP : ps.length ≤ cp) (kP : ps.length ≤ 300) (hR : I64.C W0 R rs.length rs) (lR : rs.length ≤ cr) (kR : rs.length ≤ 300) (hp : grommetlaw16_pick.f what 6 = some 3) :
    Calls Try.prog 20 #[.pointer (some ⟨s, 0, none⟩), .pointer (some ⟨m, 0, none⟩), .agg (D14 what n1 at_ P ps.length cp R rs.length cr inst fn ans lo hi has ty mu v)] w fun e w' => e = .returned (.bool true) ∧ ODone w w' W0 base s m F L N G := by
  obtain ⟨tag, vF, vT, vM, vG, T, M, uF, uT, uX, uM, uG, F', T', M', hS, hM⟩ := h
  have CP := Aside0.mk (fun W : World => grommetlaw16_pick.calls what 6 3 W hp)
  have HS := Aside0.mk hS
  have HM := Aside0.mk hM
  have HW := Aside0.mk hW
  have HP := Aside0.mk hP
  have HR := Aside0.mk hR
  have hml := hM.md.lo
  have hsl := hS.st.lo
  clear hS hM hW hP hR hp
  go_enter Try.func20, Try.ntmps20
  go_upto_region 9 with (go_at_call 10; (refine (CP.out _).mono ?_); rintro e w1 ⟨rfl, ⟨nd, rfl⟩⟩)
  obtain ⟨w2, hw2⟩ : ∃ w2, w2 = ((w.alloc (Obj.cells (D14 what n1 at_ P ps.length cp R rs.length cr inst fn ans lo hi has ty mu v) 43)).drewN nd) := ⟨_, rfl⟩
  rw [← hw2]
  have hB2 : Below w.heap.size w w2 := by rw [hw2]; exact pw_below_drewN (below_alloc (Below.refl _ _) _) _
  have r0 : Row w2 w.heap.size 43 (D14 what n1 at_ P ps.length cp R rs.length cr inst fn ans lo hi has ty mu v) := by rw [hw2]; exact Row.drewN (Row.made w _ _ rfl) nd
  have hS2 := (HS.out.begin hB2).below (Below.refl _ w2).drew
  have hM2 := (HM.out.begin hB2).below (Below.refl _ w2).drew
  have ht0 := tag0_new w tag w.heap.size (Nat.le_refl _)
  obtain ⟨tg, htg⟩ : ∃ t, t = tag0 w tag := ⟨_, rfl⟩
  rw [← htg] at hS2 hM2 ht0
  obtain ⟨AF, cF, rfl⟩ := Kd.R_slice hM2.md.g
  have b3 : w2.cell? ⟨w.heap.size, 11, none⟩ = some (.int .i64 ty) := r0.cell 11
  have b4 : w2.cell? ⟨w.heap.size, 12, none⟩ = some (.bool mu) := r0.cell 12
  have b5 : w2.cell? ⟨w.heap.size, 13, none⟩ = some (.int .u64 v) := r0.cell 13
  have p0 : w2.cell? ⟨m, 4, none⟩ = some (.slice AF G.length cF) := hM2.md.row.cell 4
  have p7 : (w2.alloc (.cells #[.int .i64 ty, .bool mu, .int .u64 v] 41)).cell? ⟨m, 4, none⟩ = some (.slice AF G.length cF) := (hM2.md.row.alloc (w := w2) _).cell 4
  have n0 := World.new_ne _ _ p0
  have n3 := World.new_ne _ _ b3
  have n4 := World.new_ne _ _ b4
  have n5 := World.new_ne _ _ b5
  have hsz2 : w.heap.size < w2.heap.size := r0.lt
  have HS2 := Aside0.mk hS2
  have HM2 := Aside0.mk hM2
  have HB2 := Aside0.mk hB2
  have HT0 := Aside0.mk ht0
  have HR0 := Aside0.mk r0
  have hrow0 := Aside0.mk (show Row w2.drew w.heap.size 43 (D14 what n1 at_ P ps.length cp R rs.length cr inst fn ans lo hi has ty mu v) from r0)
  clear hS2 hM2 hB2 ht0 r0 HS HM hw2 htg CP
  go_region_law
    (first
      | (refine Kd.R_append_step (W := w2.drew) k41 base (by rfl) (.tmp 49) (.tmp 52) 80 41 (.agg #[.int .i64 0, .bool false, .int .u64 0]) 24 rfl Try.underlying80 (by kernel_rfl) rfl (by decide) (by decide) (.slice AF G.length cF) G ⟨ty, mu, v⟩ [.int .i64 ty, .bool mu, .int .u64 v] (fun k => (tg k = 2 ∧ k < w2.drew.heap.size) ∨ w2.drew.heap.size ≤ k) (fun _ => False) rfl (by rfl) (k41_mkM _ _ _ _) (fun k hk => hk.elim) (fun k hk => .inr hk) (Kd.R_mono HM2.out.was.g (fun _ hk => .inl hk)) (Below.refl base _) (Nat.le_trans hb (Nat.le_of_lt hsz2)) (by omega) ?_
         rintro v3 w3 hR3 hB3 hg3 hat3
         obtain ⟨A3, c3, rfl⟩ := Kd.R_slice hR3
         rw [List.length_append, List.length_singleton] at hR3 ⊢
         have r3 := HM2.out.md.row.grown hg3 (fun e => Kd.R_ne HM2.out.md.g HM2.out.md.row (by decide) e.symm)
         have q0 := r3.cell 4
         have z0 := r3.frozen 4
         simp only [List.getElem?_toArray, List.getElem?_cons_zero, List.getElem?_cons_succ] at q0))
  all_goals
    obtain ⟨⟨tg1, uF1, uT1, uX1, uM1, uG1, F1, T1, M1, e1, hM4⟩, hO4⟩ := mh_addG HM2.out (x := ⟨ty, mu, v⟩) hR3 hg3
    have hS4 := HS2.out.other hO4 hsm hml e1
    have r4 := Row.same hrow0.out (hO4.keep hsz2 HT0.out (by omega))
    have hB4 : Below W0.heap.size w _ := (below_mono HB2.out HW.out.size).drew.trans (hO4.below (Nat.le_trans HW.out.size HB2.out.size) h1 (by omega))
    have t4 : tg1 w.heap.size = 0 := (e1 _ hsz2).trans HT0.out
    have q4 := (HM2.out.md.row.grown hg3 (fun e => Kd.R_ne HM2.out.md.g HM2.out.md.row (by decide) e.symm)).put_ 4 (.slice A3 (G.length + 1) c3)
    have q5 := q4.cell 4
    simp only [List.getElem?_toArray, List.getElem?_cons_zero, List.getElem?_cons_succ, List.setIfInBounds_toArray, List.set_cons_zero, List.set_cons_succ] at q5
    obtain ⟨w4, hw4⟩ : ∃ w4, w4 = w3.setCell ⟨m, 4, none⟩ (.slice A3 (G.length + 1) c3) := ⟨_, rfl⟩
    rw [← hw4] at hM4 hO4 hS4 r4 hB4 q5 ⊢
    have l4 : base ≤ w4.heap.size := Nat.le_trans hb (Nat.le_trans (Nat.le_of_lt hsz2) hO4.size)
    have lb4 : w.heap.size < w4.heap.size := Nat.lt_of_lt_of_le hsz2 hO4.size
    have d3 : w4.cell? ⟨w.heap.size, 11, none⟩ = some (.int .i64 ty) := r4.cell 11
    have d4 : w4.cell? ⟨w.heap.size, 12, none⟩ = some (.bool mu) := r4.cell 12
    have d5 : w4.cell? ⟨w.heap.size, 13, none⟩ = some (.int .u64 v) := r4.cell 13
    have hcall := sh_addGlobal (hS4.below (Below.refl _ w4).drew) l4 (by omega) ty mu v
    have HC := Aside0.mk hcall
    have HM4 := Aside0.mk hM4
    have HB4 := Aside0.mk hB4
    have HR4 := Aside0.mk r4
    have HT4 := Aside0.mk t4
    have HL4 := Aside0.mk lb4
    have LB4 := Aside0.mk l4
    clear hcall hM4 hS4 hO4 hB4 r4 q4 hw4 hR3 hB3 hg3 hat3 r3 q0 z0 p0 p7 b3 b4 b5 n0 n3 n4 n5 HS2 HM2 e1 t4 l4 lb4
    have ewr : IntKind.i64.wrap (G.length : Int) = G.length := by rw [IntKind.wrap_i64]; omega
    go_upto_region 10 with fail
    go_region_held3 (fun w' => w'.cell? ⟨m, 4, none⟩ = some (.slice A3 (G.length + 1) c3) ∧ w'.cell? ⟨w.heap.size, 11, none⟩ = some (.int .i64 ty) ∧ w'.cell? ⟨w.heap.size, 12, none⟩ = some (.bool mu) ∧ w'.cell? ⟨w.heap.size, 13, none⟩ = some (.int .u64 v))
      ((go_split_ands; refine ⟨?_, ?_, ?_, ?_⟩) <;> first | (simp; done) | assumption | go_keep)
      (first
        | (go_at_call 11; (refine HC.out.mono ?_); rintro e w5 ⟨rfl, hD5⟩; have r5 := Row.same HR4.out (hD5.2.keep HL4.out HT4.out (by omega)); have q6 := (hD5.2.low (HM4.out.md.row.lt) hml (fun e => hsm e.symm)); have f3 : w5.cell? ⟨w.heap.size, 11, none⟩ = some (.int .i64 ty) := r5.cell 11; have f4 : w5.cell? ⟨w.heap.size, 12, none⟩ = some (.bool mu) := r5.cell 12; have f5 : w5.cell? ⟨w.heap.size, 13, none⟩ = some (.int .u64 v) := r5.cell 13; have f8 : w5.cell? ⟨m, 4, none⟩ = some (.slice A3 (G.length + 1) c3) := (World.cell?_of_block (a := ⟨m, 4, none⟩) q6).trans q5; have HD5 := Aside0.mk hD5; clear hD5 r5 q6))
    go_wp2
    go_ret
    obtain ⟨⟨tg2, _, _, _, _, _, _, e2, hS5⟩, hO5⟩ := HD5.out
    refine ⟨by simp, ⟨F, L, N, _, ⟨_, _, _, _, _, _, _, _, _, _, _, _, _, _, _, hS5, (HM4.out.below (Below.refl _ w4).drew).other hO5 (fun e => hsm e.symm) hsl e2⟩, by omega, by omega, by omega, by simp⟩, HB4.out.drew.trans (hO5.below (Nat.le_trans HW.out.size (Nat.le_of_lt HL4.out)) h0 (by omega))⟩
end Go.Proofs.Ytbelijoggbblgaa.Sp
