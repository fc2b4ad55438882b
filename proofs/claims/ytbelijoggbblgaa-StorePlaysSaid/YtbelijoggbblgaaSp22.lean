import Derived.Test.YtbelijoggbblgaaSp21
import Derived.Deep.RegionLaw
namespace Go.Proofs.Ytbelijoggbblgaa.Sp
open Go.RowKit Go.Proofs.YtbelijoggbblgaaW.PrintWords Go.Proofs.YtbelijoggbblgaaW.PrintLast Go.Proofs.YtbelijoggbblgaaW.PrintMore Go.Proofs.Ytbelijoggbblgaa.PStorePlays Go.Proofs.Ytbelijoggbblgaa.St
set_option linter.unusedVariables false
set_option linter.unusedSimpArgs false
set_option maxHeartbeats 8000000 in
set_option maxRecDepth 100000 in
theorem adds_m_yes {w W0 : World} {base s m : Nat} {F : List S32} {L : List (List Int × Int)} {N : List (Nat × Int)} {G : List S41} (h : Pl w W0 base s m F L N G) (hsm : s ≠ m) (hb : base ≤ w.heap.size) (hW : Below W0.heap.size W0 w) (h0 : W0.heap.size ≤ s) (h1 : W0.heap.size ≤ m) (hlL : N.length ≤ 90)
    (what n1 at_ : Int) {P : Option Addr} {cp : Nat} {R : Option Addr} {cr : Nat} {np nr : Nat} (inst fn ans lo hi : Int) (has : Bool) (ty : Int) (mu : Bool) (v : Int)
    (hp : grommetlaw16_pick.f what 6 = some 2) (hn : may lo hi has) :
    Calls Try.prog 34 #[.pointer (some ⟨s, 0, none⟩), .pointer (some ⟨m, 0, none⟩), .agg (D14 what n1 at_ P np cp R nr cr inst fn ans lo hi has ty mu v)] w fun e w' => e = .returned (.bool true) ∧ ODone w w' W0 base s m F L N G := by
  obtain ⟨tag, vF, vT, vM, vG, T, M, uF, uT, uX, uM, uG, F', T', M', hS, hM⟩ := h
  have CP := Aside0.mk (fun W : World => grommetlaw16_pick.calls what 6 2 W hp)
  have CT := Aside0.mk (fun W : World => grommetref15_May.calls lo hi has true W (may_t hn))
  have hu34 := Try.underlying34
  have HS := Aside0.mk hS
  have HM := Aside0.mk hM
  have HW := Aside0.mk hW
  have hml := hM.md.lo
  have hsl := hS.st.lo
  have HN := Aside0.mk hn
  clear hS hM hW hp hn
  go_enter Try.func34, Try.ntmps34
  go_upto_region 17 with (go_at_call 10; (refine (CP.out _).mono ?_); rintro e w1 ⟨rfl, ⟨nd, rfl⟩⟩)
  obtain ⟨w2, hw2⟩ : ∃ w2, w2 = ((w.alloc (Obj.cells (D14 what n1 at_ P np cp R nr cr inst fn ans lo hi has ty mu v) 43)).drewN nd) := ⟨_, rfl⟩
  have r0 : Row w2 w.heap.size 43 (D14 what n1 at_ P np cp R nr cr inst fn ans lo hi has ty mu v) := by rw [hw2]; exact Row.drewN (Row.made w _ _ rfl) nd
  have hB2 : Below w.heap.size w w2 := by rw [hw2]; exact pw_below_drewN (below_alloc (Below.refl _ _) _) _
  rw [← hw2]
  clear hw2 CP
  have b1 : w2.cell? ⟨w.heap.size, 8, none⟩ = some (.int .i64 lo) := r0.cell 8
  have b2 : w2.cell? ⟨w.heap.size, 9, none⟩ = some (.int .i64 hi) := r0.cell 9
  have b3 : w2.cell? ⟨w.heap.size, 10, none⟩ = some (.bool has) := r0.cell 10
  have hsz2 : w.heap.size < w2.heap.size := r0.lt
  have hM2 := HM.out.begin hB2
  have hS2 := HS.out.begin hB2
  have ht0 := tag0_new w tag w.heap.size (Nat.le_refl _)
  obtain ⟨tg, htg⟩ : ∃ t, t = tag0 w tag := ⟨_, rfl⟩
  rw [← htg] at hS2 hM2 ht0
  have CA := Aside0.mk (sh_addMem hS2 (Nat.le_trans hb (Nat.le_of_lt hsz2)) (by omega) lo hi has HN.out)
  have HR0 := Aside0.mk r0
  have HB2 := Aside0.mk hB2
  have HM2 := Aside0.mk hM2
  have HT0 := Aside0.mk ht0
  clear r0 hB2 hM2 hS2 ht0 htg HS HM
  go_upto_region 18 with (go_at_call 46; (refine CA.out.mono ?_); rintro e w3 ⟨rfl, hD3⟩; have HD3 := Aside0.mk hD3; clear hD3)
  obtain ⟨⟨tg1, _, _, _, _, _, _, e1, hS3⟩, hO3⟩ := HD3.out
  have r3 := Row.same HR0.out (hO3.keep hsz2 HT0.out (by omega))
  have hM3 := HM2.out.other hO3 (fun e => hsm e.symm) hsl e1
  have d1 : w3.cell? ⟨w.heap.size, 8, none⟩ = some (.int .i64 lo) := r3.cell 8
  have d2 : w3.cell? ⟨w.heap.size, 9, none⟩ = some (.int .i64 hi) := r3.cell 9
  have d3 : w3.cell? ⟨w.heap.size, 10, none⟩ = some (.bool has) := r3.cell 10
  have hB3 : Below W0.heap.size w w3 := (below_mono HB2.out HW.out.size).trans (hO3.below (Nat.le_trans HW.out.size HB2.out.size) h0 (by omega))
  have hsz3 : w.heap.size < w3.heap.size := Nat.lt_of_lt_of_le hsz2 hO3.size
  have HS3 := Aside0.mk hS3
  have HM3 := Aside0.mk hM3
  have HR3 := Aside0.mk r3
  have HB3 := Aside0.mk hB3
  clear b1 b2 b3 r3 hS3 hM3 hB3 hO3 HD3 CA HR0 HM2 e1 HT0
  go_upto_region 21 with (go_at_call 47; (refine (CT.out _).mono ?_); rintro e w4 ⟨rfl, hB4⟩; have HB4 := Aside0.mk hB4; clear hB4)
  have r4 := HR3.out.below HB4.out hsz3
  have hS4 := (HS3.out.below HB4.out).below (Below.refl _ w4).drew
  have hM4 := (HM3.out.below HB4.out).below (Below.refl _ w4).drew
  obtain ⟨AM, cM, rfl⟩ := Kd.R_slice hM4.md.m
  have c1 : w4.cell? ⟨w.heap.size, 8, none⟩ = some (.int .i64 lo) := r4.cell 8
  have c2 : w4.cell? ⟨w.heap.size, 9, none⟩ = some (.int .i64 hi) := r4.cell 9
  have c3 : w4.cell? ⟨w.heap.size, 10, none⟩ = some (.bool has) := r4.cell 10
  have p3 : w4.cell? ⟨m, 3, none⟩ = some (.slice AM M'.length cM) := hM4.md.row.cell 3
  have hB5 : Below W0.heap.size w w4.drew := (HB3.out.trans (below_mono HB4.out (by have := HW.out.size; omega))).drew
  have hs4 : base ≤ w4.drew.heap.size := by have := HB4.out.size; show base ≤ w4.heap.size; omega
  have hMl := Aside0.mk hM4.ml
  have hlM : M'.length ≤ 90 := by rw [hMl.out]; exact hlL
  have CN := Aside0.mk (rnew w4.drew lo hi has HN.out.1 HN.out.2.1)
  have HS4 := Aside0.mk hS4
  have HM4 := Aside0.mk hM4
  have HB5 := Aside0.mk hB5
  obtain ⟨nn, hnn⟩ : ∃ n, n = (lo * 256).toNat := ⟨_, rfl⟩
  obtain ⟨mo, hmo⟩ : ∃ m, m = (if has = true then hi else 16) := ⟨_, rfl⟩
  rw [← hnn, ← hmo] at CN
  have HNN := Aside0.mk hnn
  have HMO := Aside0.mk hmo
  clear hnn hmo hS4 hM4 hB5 r4 d1 d2 d3 HS3 HM3 HR3 HB3 HB4 CT HB2
  go_region_law
    (first
      | (refine Eq.mpr (if_pos (by rfl)) ?_; go_simp; go_at_call 48; (refine CN.out.mono ?_); rintro e w5 ⟨g, A, c, rfl, hMm, hB6⟩; have HMm := Aside0.mk hMm; have HB6 := Aside0.mk hB6; have HM5 := Aside0.mk (HM4.out.begin hB6); have HS5 := Aside0.mk (HS4.out.begin hB6); clear hMm hB6; have p5 : w5.cell? ⟨m, 3, none⟩ = some (.slice AM M'.length cM) := HM5.out.md.row.cell 3; have p6 : (w5.alloc (.cells #[.pointer (some ⟨g, 0, none⟩)] 131)).cell? ⟨m, 3, none⟩ = some (.slice AM M'.length cM) := (HM5.out.md.row.alloc _).cell 3; have n5 := World.new_ne _ _ p5)
      | (refine Kd.R_append_step (W := w5) (raw 1) base (by rfl) (.tmp 110) (.tmp 114) 79 131 (.pointer none) 8 rfl Try.underlying79 (by kernel_rfl) rfl (by decide) (by decide) (.slice AM M'.length cM) M' [.pointer (some ⟨g, 0, none⟩)] [.pointer (some ⟨g, 0, none⟩)] (fun k => (tag0 w4.drew tg1 k = 2 ∧ k < w5.heap.size) ∨ w5.heap.size ≤ k) (fun _ => False) rfl (by rfl) ⟨rfl, rfl, by intro u hu; simp only [List.mem_cons, List.mem_nil_iff, or_false] at hu; rcases hu with rfl <;> rfl⟩ (fun k hk => hk.elim) (fun k hk => .inr hk) (Kd.R_mono HM5.out.was.m (fun _ hk => .inl hk)) (Below.refl base _) (Nat.le_trans hs4 HB6.out.size) (by omega) ?_
         rintro v6 w6 hR6 hB7 hg6 hat6
         obtain ⟨A6, c6, rfl⟩ := Kd.R_slice hR6
         rw [List.length_append, List.length_singleton] at hR6 ⊢
         have r6 := HM5.out.md.row.grown hg6 (fun e => Kd.R_ne HM5.out.md.m HM5.out.md.row (by decide) e.symm)
         have q6 := r6.cell 3
         have z6 := r6.frozen 3
         simp only [List.getElem?_toArray, List.getElem?_cons_zero, List.getElem?_cons_succ] at q6))
  all_goals
    have hme : Me w5 base (tag0 w4.drew tg1) 130 [.pointer (some ⟨g, 0, none⟩)] nn mo := ⟨g, A, c, rfl, HMm.out.mono (base' := base) hs4, tag0_new _ _ _ HMm.out.lo, fun k hk => tag0_new _ _ _ (HMm.out.own.lt k (by rw [ownBlock_slice]; exact hk)).1⟩
    obtain ⟨⟨tg9, uF9, uT9, uX9, uM9, uG9, F9, T9, M9, e9, hM9⟩, hO9⟩ := mh_addM HM5.out hme hR6 hg6
    have hS9 := HS5.out.other hO9 hsm hml e9
    have r9 := (HM5.out.md.row.grown hg6 (fun e => Kd.R_ne HM5.out.md.m HM5.out.md.row (by decide) e.symm)).put_ 3 (.slice A6 (M'.length + 1) c6)
    have q9 := r9.cell 3
    simp only [List.getElem?_toArray, List.getElem?_cons_zero, List.getElem?_cons_succ, List.setIfInBounds_toArray, List.set_cons_zero, List.set_cons_succ] at q9
    have hs5 : w4.drew.heap.size ≤ w5.heap.size := HB6.out.size
    have hws : W0.heap.size ≤ w4.drew.heap.size := Nat.le_trans HW.out.size HB5.out.size
    have hB9 := (HB5.out.trans (below_mono HB6.out hws)).trans (hO9.below (Nat.le_trans hws hs5) h1 (by omega))
    rw [HNN.out, HMO.out] at hM9
    obtain ⟨w9, hw9⟩ : ∃ w9, w9 = w6.setCell ⟨m, 3, none⟩ (.slice A6 (M'.length + 1) c6) := ⟨_, rfl⟩
    rw [← hw9] at hM9 hS9 q9 hB9 ⊢
    have HM9 := Aside0.mk hM9
    have HS9 := Aside0.mk hS9
    have HB9 := Aside0.mk hB9
    have ewr : IntKind.i64.wrap (M'.length : Int) = (N.length : Int) := by rw [hMl.out, IntKind.wrap_i64]; omega
    clear hw9 hM9 hS9 hB9 hme r9 hO9 e9 hR6 hg6 hB7 hat6 r6 q6 z6 p3 p5 p6 n5 c1 c2 c3
    go_wp2
    go_ret
    exact ⟨rfl, ⟨F, L, _, G, ⟨_, _, _, _, _, _, _, _, _, _, _, _, _, _, _, HS9.out, HM9.out⟩, by omega, by omega, by simp, by omega⟩, HB9.out⟩
end Go.Proofs.Ytbelijoggbblgaa.Sp
