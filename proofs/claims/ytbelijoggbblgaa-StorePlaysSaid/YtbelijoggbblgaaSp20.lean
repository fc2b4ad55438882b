import Derived.Test.YtbelijoggbblgaaSp16
namespace Go.Proofs.Ytbelijoggbblgaa.Sp
open Go.RowKit Go.Proofs.YtbelijoggbblgaaW.PrintWords Go.Proofs.YtbelijoggbblgaaW.PrintLast Go.Proofs.YtbelijoggbblgaaW.PrintMore Go.Proofs.Ytbelijoggbblgaa.PStorePlays Go.Proofs.Ytbelijoggbblgaa.St
set_option linter.unusedVariables false
set_option linter.unusedSimpArgs false
attribute [local go_sem] err_eql
theorem table_f (lo hi : Int) (has : Bool) : grommetlaw16_table.f lo hi has = some (decide (0 ≤ lo ∧ lo ≤ 64 ∧ (has = true → lo ≤ hi ∧ hi ≤ 64))) := by
  unfold grommetlaw16_table.f
  by_cases h0 : lo ≥ 0
  · by_cases h1 : lo ≤ 64
    · cases has
      · simp [h0, h1]
      · by_cases h2 : hi ≥ lo
        · simp [h0, h1, h2]
        · simp [h0, h1, h2]
    · simp [h0, h1]
  · simp [h0]
theorem table_t {lo hi : Int} {has : Bool} (h : tabOk lo hi has) : grommetlaw16_table.f lo hi has = some true := by
  rw [table_f]; unfold tabOk at h; rw [decide_eq_true h]
theorem table_n {lo hi : Int} {has : Bool} (h : ¬ tabOk lo hi has) : grommetlaw16_table.f lo hi has = some false := by
  rw [table_f]; unfold tabOk at h; rw [decide_eq_false h]
set_option maxHeartbeats 4000000 in
set_option maxRecDepth 100000 in
theorem adds_t_no {w W0 : World} {base s m : Nat} {F : List S32} {L : List (List Int × Int)} {N : List (Nat × Int)} {G : List S41} (h : Pl w W0 base s m F L N G) (hW : Below W0.heap.size W0 w)
    (what n1 at_ : Int) {P : Option Addr} {cp : Nat} {R : Option Addr} {cr : Nat} {np nr : Nat} (inst fn ans lo hi : Int) (has : Bool) (ty : Int) (mu : Bool) (v : Int)
    (hp : grommetlaw16_pick.f what 6 = some 1) (hn : ¬ tabOk lo hi has) :
    Calls Try.prog 34 #[.pointer (some ⟨s, 0, none⟩), .pointer (some ⟨m, 0, none⟩), .agg (D14 what n1 at_ P np cp R nr cr inst fn ans lo hi has ty mu v)] w fun e w' => e = .returned (.bool true) ∧ ODone w w' W0 base s m F L N G := by
  have HPl := Aside0.mk h
  have CP := Aside0.mk (fun W : World => grommetlaw16_pick.calls what 6 1 W hp)
  have CT := Aside0.mk (fun W : World => grommetlaw16_table.calls lo hi has false W (table_n hn))
  have CA := Aside0.mk (fun W : World => addTable_no W s lo hi has hn)
  have hu34 := Try.underlying34
  have hsz := Aside0.mk hW.size
  clear h hW hp hn
  go_enter Try.func34, Try.ntmps34
  go_upto_region 2 with (go_at_call 10; (refine (CP.out _).mono ?_); rintro e w1 ⟨rfl, ⟨nd, rfl⟩⟩)
  obtain ⟨w2, hw2⟩ : ∃ w2, w2 = ((w.alloc (Obj.cells (D14 what n1 at_ P np cp R nr cr inst fn ans lo hi has ty mu v) 43)).drewN nd) := ⟨_, rfl⟩
  have r0 : Row w2 w.heap.size 43 (D14 what n1 at_ P np cp R nr cr inst fn ans lo hi has ty mu v) := by rw [hw2]; exact Row.drewN (Row.made w _ _ rfl) nd
  have hB2 : Below w.heap.size w w2 := by rw [hw2]; exact pw_below_drewN (below_alloc (Below.refl _ _) _) _
  rw [← hw2]
  clear hw2 CP
  have b1 : w2.cell? ⟨w.heap.size, 8, none⟩ = some (.int .i64 lo) := r0.cell 8
  have b2 : w2.cell? ⟨w.heap.size, 9, none⟩ = some (.int .i64 hi) := r0.cell 9
  have b3 : w2.cell? ⟨w.heap.size, 10, none⟩ = some (.bool has) := r0.cell 10
  have HR0 := Aside0.mk r0
  have HB2 := Aside0.mk hB2
  clear r0 hB2
  go_upto_region 3 with (go_at_call 9; (refine (CA.out _).mono ?_); rintro e w3 ⟨rfl, hB3⟩; have HB3 := Aside0.mk hB3; clear hB3)
  have r3 := HR0.out.below HB3.out HR0.out.lt
  have d1 : w3.cell? ⟨w.heap.size, 8, none⟩ = some (.int .i64 lo) := r3.cell 8
  have d2 : w3.cell? ⟨w.heap.size, 9, none⟩ = some (.int .i64 hi) := r3.cell 9
  have d3 : w3.cell? ⟨w.heap.size, 10, none⟩ = some (.bool has) := r3.cell 10
  have HB4 := Aside0.mk (HB2.out.trans (below_mono HB3.out HB2.out.size))
  clear b1 b2 b3 r3 HB3
  go_wp2_with (go_at_call 45; (refine (CT.out _).mono ?_); rintro e w4 ⟨rfl, hB5⟩; have HB5 := Aside0.mk hB5; clear hB5)
  go_ret
  exact ⟨rfl, ODone.same HPl.out (HB4.out.trans (below_mono HB5.out HB4.out.size)) hsz.out⟩
set_option maxHeartbeats 4000000 in
set_option maxRecDepth 100000 in
theorem adds_m_no {w W0 : World} {base s m : Nat} {F : List S32} {L : List (List Int × Int)} {N : List (Nat × Int)} {G : List S41} (h : Pl w W0 base s m F L N G) (hW : Below W0.heap.size W0 w)
    (what n1 at_ : Int) {P : Option Addr} {cp : Nat} {R : Option Addr} {cr : Nat} {np nr : Nat} (inst fn ans lo hi : Int) (has : Bool) (ty : Int) (mu : Bool) (v : Int)
    (hp : grommetlaw16_pick.f what 6 = some 2) (hn : ¬ may lo hi has) :
    Calls Try.prog 34 #[.pointer (some ⟨s, 0, none⟩), .pointer (some ⟨m, 0, none⟩), .agg (D14 what n1 at_ P np cp R nr cr inst fn ans lo hi has ty mu v)] w fun e w' => e = .returned (.bool true) ∧ ODone w w' W0 base s m F L N G := by
  have HPl := Aside0.mk h
  have CP := Aside0.mk (fun W : World => grommetlaw16_pick.calls what 6 2 W hp)
  have CT := Aside0.mk (fun W : World => grommetref15_May.calls lo hi has false W (may_n hn))
  have CA := Aside0.mk (fun W : World => addMem_no W s lo hi has hn)
  have hu34 := Try.underlying34
  have hsz := Aside0.mk hW.size
  clear h hW hp hn
  go_enter Try.func34, Try.ntmps34
  go_upto_region 17 with (go_at_call 10; (refine (CP.out _).mono ?_); rintro e w1 ⟨rfl, ⟨nd, rfl⟩⟩)
  obtain ⟨w2, hw2⟩ : ∃ w2, w2 = ((w.alloc (Obj.cells (D14 what n1 at_ P np cp R nr cr inst fn ans lo hi has ty mu v) 43)).drewN nd) := ⟨_, rfl⟩
  have r0 : Row w2 w.heap.size 43 (D14 what n1 at_ P np cp R nr cr inst fn ans lo hi has ty mu v) := by rw [hw2]; exact Row.drewN (Row.made w _ _ rfl) nd
  have hB2 : Below w.heap.size w w2 := by rw [hw2]; exact pw_below_drewN (below_alloc (Below.refl _ _) _) _
  rw [← hw2]
  clear hw2 CP
  have b1 : w2.cell? ⟨w.heap.size, 8, none⟩ = some (.int .i64 lo) := r0.cell 8
  have b2 : w2.cell? ⟨w.heap.size, 9, none⟩ = some (.int .i64 hi) := r0.cell 9
  have b3 : w2.cell? ⟨w.heap.size, 10, none⟩ = some (.bool has) := r0.cell 10
  have HR0 := Aside0.mk r0
  have HB2 := Aside0.mk hB2
  clear r0 hB2
  go_upto_region 18 with (go_at_call 46; (refine (CA.out _).mono ?_); rintro e w3 ⟨rfl, hB3⟩; have HB3 := Aside0.mk hB3; clear hB3)
  have r3 := HR0.out.below HB3.out HR0.out.lt
  have d1 : w3.cell? ⟨w.heap.size, 8, none⟩ = some (.int .i64 lo) := r3.cell 8
  have d2 : w3.cell? ⟨w.heap.size, 9, none⟩ = some (.int .i64 hi) := r3.cell 9
  have d3 : w3.cell? ⟨w.heap.size, 10, none⟩ = some (.bool has) := r3.cell 10
  have HB4 := Aside0.mk (HB2.out.trans (below_mono HB3.out HB2.out.size))
  clear b1 b2 b3 r3 HB3
  go_wp2_with (go_at_call 47; (refine (CT.out _).mono ?_); rintro e w4 ⟨rfl, hB5⟩; have HB5 := Aside0.mk hB5; clear hB5)
  go_ret
  exact ⟨rfl, ODone.same HPl.out (HB4.out.trans (below_mono HB5.out HB4.out.size)) hsz.out⟩
end Go.Proofs.Ytbelijoggbblgaa.Sp
