/- The document's Same of a module and itself, loop by loop: the rest of the loops. Printed by the program mkex8.py. -/
import Derived.Test.YtbelijoggbblgaaEx8
namespace Go.Proofs.Ytbelijoggbblgaa.Ex
open Go.RowKit Go.Proofs.YtbelijoggbblgaaW.PrintWords Go.Proofs.YtbelijoggbblgaaW.PrintLast Go.Proofs.Ytbelijoggbblgaa.RStoreExports Go.Proofs.Ytbelijoggbblgaa.Man
set_option linter.unusedVariables false
set_option linter.unusedSimpArgs false
def same.T27 : Bool × List (List Nat × List Nat) := (true, [([], []), ([0], [0]), ([1], [1]), ([2, 1], [1, 2]), ([1], [1]), ([3, 4, 1], [1, 3, 4]), ([5, 1], [1, 5]), ([6, 1], [1, 6]), ([1], [1]), ([8, 1], [1, 8]), ([1], [1]), ([9, 10, 1], [1, 9, 10]), ([11, 1], [1, 11]), ([12, 1], [1, 12]), ([7, 13, 1], [1, 7, 13]), ([1, 14], [1, 14]), ([15, 1], [15]), ([16], [16]), ([17, 16], [16, 17]), ([16], [16]), ([18, 19, 16], [16, 18, 19]), ([20, 16], [16, 20]), ([21, 16], [16, 21]), ([16], [16]), ([23, 16], [16, 23]), ([16], [16]), ([24, 25, 16], [16, 24, 25]), ([26, 16], [16, 26]), ([27, 16], [16, 27]), ([22, 28, 16], [16, 22, 28]), ([16, 29], [16, 29]), ([30, 16], [30]), ([31], [31]), ([32, 31], [31, 32]), ([31], [31]), ([33, 34, 31], [31, 33, 34]), ([35, 31], [31, 35]), ([36, 31], [31, 36]), ([37, 31, 31], [31, 37]), ([31], [31]), ([39, 31], [31, 39]), ([31], [31]), ([40, 41, 31], [31, 40, 41]), ([42, 31], [31, 42]), ([43, 31], [31, 43]), ([44, 38, 31], [31, 44]), ([38, 45, 45, 31], [31, 38, 45]), ([31, 46], [31, 46]), ([47, 46, 0, 1, 2, 3, 4, 5, 6, 7, 8, 9, 10, 11, 12, 13, 14, 15, 16, 17, 18, 19, 20, 21, 22, 23, 24, 25, 26, 27, 28, 29, 30, 31, 32, 33, 34, 35, 36, 37, 38, 39, 40, 41, 42, 43, 44, 45, 46, 47], [0, 47])])
def same.B27 : List Nat := [0, 1, 3, 7, 3, 31, 63, 127, 3, 259, 3, 1795, 3843, 7939, 16383, 32767, 65535, 131071, 262143, 131071, 1048575, 2097151, 4194303, 131071, 8519679, 131071, 58851327, 125960191, 260177919, 536870911, 1073741823, 2147483647, 4294967295, 8589934591, 4294967295, 34359738367, 68719476735, 137438953471, 274877906943, 4294967295, 554050781183, 4294967295, 3852585664511, 8250632175615, 17046725197823, 35184372088831, 70368744177663, 140737488355327, 281474976710655]
theorem same.tab27 : rtab .any (opsOf Try.f19 27) = same.T27 := by kernel_rfl
theorem same.bits27 : waitsOk same.T27.2 same.B27 = true := by kernel_rfl
set_option maxHeartbeats 4000000 in
set_option maxRecDepth 100000 in
theorem sameL5 {w : World} {m : S61} {ca cb : Array Value} {A C : Option Addr} {a c : Nat} (ga : k106.C w A m.f5.length m.f5) (gc : k106.C w C m.f5.length m.f5) (ha : ca[5]? = some (.slice A m.f5.length a)) (hc : cb[5]? = some (.slice C m.f5.length c))
    {K : Act → World → Prop} {R : Ending → World → Prop} {a1 : Act} {w1 : World} (hF : Fr 464 a1 [(11, .int .i64 0), (5, .bool true), (3, .pointer (some ⟨w.heap.size + 1, 0, none⟩)), (2, .pointer (some ⟨w.heap.size, 0, none⟩))]) (hm : Sm w w1 ca cb)
    (hK : ∀ a' w', Fr 464 a' [(5, .bool true), (3, .pointer (some ⟨w.heap.size + 1, 0, none⟩)), (2, .pointer (some ⟨w.heap.size, 0, none⟩))] → Sm w w' ca cb → K a' w') : (blockOf Try.f19 10).wp Try.prog (Exit.then K (bodyPost Try.prog Try.f19 R)) a1 w1 := by
  have GA := Aside0.mk ga; have GC := Aside0.mk gc; have HA := Aside0.mk ha; have HC := Aside0.mk hc; have HKK := Aside0.mk hK
  clear ga gc ha hc hK
  refine wp_block ?_
  refine wp_loop_ghost (fun q_ b_ w_ => ∃ k : Int, 0 ≤ k ∧ (q_ : Int) + k = m.f5.length ∧ Fr 464 b_ [(11, .int .i64 k), (5, .bool true), (3, .pointer (some ⟨w.heap.size + 1, 0, none⟩)), (2, .pointer (some ⟨w.heap.size, 0, none⟩))] ∧ Sm w w_ ca cb) m.f5.length ⟨0, Int.le_refl _, by omega, hF, hm⟩ ?_
  clear hF hm
  rintro q b wr ⟨k, hk0, hk1, HF, hm⟩
  have HM := Aside0.mk hm
  clear hm
  refine wp_seq ?_
  refine wp_seq ?_
  refine wp_region_lit ?_
  by_cases hlt : k < (m.f5.length : Int)
  · have D0 := Aside0.mk (show decide (k < (m.f5.length : Int)) = true from decide_eq_true hlt)
    have XA := Aside0.mk (show wr.cell? ⟨w.heap.size, 5, none⟩ = some (.slice A m.f5.length a) from (HM.out.a.cell 5).trans HA.out)
    have ew : IntKind.i64.wrap (k + 1) = k + 1 := by have := Kd.C_max GA.out; rw [IntKind.wrap_i64]; omega
    refine listF rfl HF rfl (by decide) (v := .int .i64 k) (by have e11 : b.tmps[11]?.getD undef = .int .i64 k := HF.at rfl; go_simp) ?_
    clear HF b
    intro b HF
    refine listF rfl HF rfl (by decide) (v := .pointer (some ⟨w.heap.size, 5, none⟩)) (by have e2 : b.tmps[2]?.getD undef = .pointer (some ⟨w.heap.size, 0, none⟩) := HF.at rfl; go_simp) ?_
    clear HF b
    intro b HF
    refine listF rfl HF rfl (by decide) (v := .slice A m.f5.length a) (by have e266 : b.tmps[266]?.getD undef = .pointer (some ⟨w.heap.size, 5, none⟩) := HF.at rfl; have c_ := XA.out; go_simp) ?_
    clear HF b
    intro b HF
    refine listF rfl HF rfl (by decide) (v := .int .i64 (m.f5.length : Int)) (by have e267 : b.tmps[267]?.getD undef = .slice A m.f5.length a := HF.at rfl; go_simp) ?_
    clear HF b
    intro b HF
    refine listF rfl HF rfl (by decide) (v := .bool true) (by have e265 : b.tmps[265]?.getD undef = .int .i64 k := HF.at rfl; have e268 : b.tmps[268]?.getD undef = .int .i64 (m.f5.length : Int) := HF.at rfl; have d0_ := D0.out; go_simp) ?_
    clear HF b
    intro b HF
    show Code.wp _ _ _ _ _
    refine wp_cond_true (HF.get rfl) ?_
    refine wp_skip ?_
    show Code.wp _ _ _ _ _
    refine wp_seq ?_
    refine wp_block ?_
    replace HF := HF.sub [(11, .int .i64 k), (5, .bool true), (3, .pointer (some ⟨w.heap.size + 1, 0, none⟩)), (2, .pointer (some ⟨w.heap.size, 0, none⟩))] (List.forall_mem_cons.2 ⟨rfl, (List.forall_mem_cons.2 ⟨rfl, (List.forall_mem_cons.2 ⟨rfl, (List.forall_mem_cons.2 ⟨rfl, by intro p_ hp_; cases hp_⟩)⟩)⟩)⟩)
    clear XA
    obtain ⟨adE, E5, e5, E6, e6, E7, e7, eA, eq0, eq1, eq2, eq3, eq4, eq5, eq6, eq7, eq8, eq9, eq10, lE5, gE5, lE6, gE6, lE7, gE7⟩ := at_T106 GA.out k hk0 hlt
    cases eA
    obtain ⟨adF, F5, f5, F6, f6, F7, f7, eA, fq0, fq1, fq2, fq3, fq4, fq5, fq6, fq7, fq8, fq9, fq10, lF5, gF5, lF6, gF6, lF7, gF7⟩ := at_T106 GC.out k hk0 hlt
    cases eA
    generalize rd_T106 m.f5 k = y at *
    have HlE5 := Aside0.mk lE5; have HgE5 := Aside0.mk gE5; clear lE5 gE5
    have HlE6 := Aside0.mk lE6; have HgE6 := Aside0.mk gE6; clear lE6 gE6
    have HlE7 := Aside0.mk lE7; have HgE7 := Aside0.mk gE7; clear lE7 gE7
    have HlF5 := Aside0.mk lF5; have HgF5 := Aside0.mk gF5; clear lF5 gF5
    have HlF6 := Aside0.mk lF6; have HgF6 := Aside0.mk gF6; clear lF6 gF6
    have HlF7 := Aside0.mk lF7; have HgF7 := Aside0.mk gF7; clear lF7 gF7
    obtain ⟨w3, hw3⟩ : ∃ w3, w3 = wr.drew := ⟨_, rfl⟩
    have HM3 := Aside0.mk (show Sm w w3 ca cb by rw [hw3]; exact HM.out.step (Below.refl _ wr).drew)
    refine start_ (n := 49) (S := fun w' => Below w3.heap.size w3 w') (ds := []) (bt 49 0) (by kernel_rfl) rfl (by kernel_rfl) (by rw [hw3]; exact Below.refl _ _) (fun hHeld => ?_)
    refine with_tabW same.tab27 same.bits27 (fun HT_ HW_ => ?_)
    clear hHeld
    rw [← hw3]
    clear hw3 HM
    have HS := Aside0.mk (Below.refl w3.heap.size w3)
    have HX := Aside0.mk (And.intro (show w3.cell? ⟨w.heap.size, 5, none⟩ = some (.slice (some adE) m.f5.length a) from (HM3.out.a.cell 5).trans HA.out) (show w3.cell? ⟨w.heap.size + 1, 5, none⟩ = some (.slice (some adF) m.f5.length c) from (HM3.out.b.cell 5).trans HC.out))
    have Heq0 := Aside0.mk ((HM3.out.low.cell (World.block_lt_of_cell? w _ eq0)).trans eq0); clear eq0
    have Heq1 := Aside0.mk ((HM3.out.low.cell (World.block_lt_of_cell? w _ eq1)).trans eq1); clear eq1
    have Heq2 := Aside0.mk ((HM3.out.low.cell (World.block_lt_of_cell? w _ eq2)).trans eq2); clear eq2
    have Heq3 := Aside0.mk ((HM3.out.low.cell (World.block_lt_of_cell? w _ eq3)).trans eq3); clear eq3
    have Heq4 := Aside0.mk ((HM3.out.low.cell (World.block_lt_of_cell? w _ eq4)).trans eq4); clear eq4
    have Heq5 := Aside0.mk ((HM3.out.low.cell (World.block_lt_of_cell? w _ eq5)).trans eq5); clear eq5
    have Heq6 := Aside0.mk ((HM3.out.low.cell (World.block_lt_of_cell? w _ eq6)).trans eq6); clear eq6
    have Heq7 := Aside0.mk ((HM3.out.low.cell (World.block_lt_of_cell? w _ eq7)).trans eq7); clear eq7
    have Heq8 := Aside0.mk ((HM3.out.low.cell (World.block_lt_of_cell? w _ eq8)).trans eq8); clear eq8
    have Heq9 := Aside0.mk ((HM3.out.low.cell (World.block_lt_of_cell? w _ eq9)).trans eq9); clear eq9
    have Heq10 := Aside0.mk ((HM3.out.low.cell (World.block_lt_of_cell? w _ eq10)).trans eq10); clear eq10
    have Hfq0 := Aside0.mk ((HM3.out.low.cell (World.block_lt_of_cell? w _ fq0)).trans fq0); clear fq0
    have Hfq1 := Aside0.mk ((HM3.out.low.cell (World.block_lt_of_cell? w _ fq1)).trans fq1); clear fq1
    have Hfq2 := Aside0.mk ((HM3.out.low.cell (World.block_lt_of_cell? w _ fq2)).trans fq2); clear fq2
    have Hfq3 := Aside0.mk ((HM3.out.low.cell (World.block_lt_of_cell? w _ fq3)).trans fq3); clear fq3
    have Hfq4 := Aside0.mk ((HM3.out.low.cell (World.block_lt_of_cell? w _ fq4)).trans fq4); clear fq4
    have Hfq5 := Aside0.mk ((HM3.out.low.cell (World.block_lt_of_cell? w _ fq5)).trans fq5); clear fq5
    have Hfq6 := Aside0.mk ((HM3.out.low.cell (World.block_lt_of_cell? w _ fq6)).trans fq6); clear fq6
    have Hfq7 := Aside0.mk ((HM3.out.low.cell (World.block_lt_of_cell? w _ fq7)).trans fq7); clear fq7
    have Hfq8 := Aside0.mk ((HM3.out.low.cell (World.block_lt_of_cell? w _ fq8)).trans fq8); clear fq8
    have Hfq9 := Aside0.mk ((HM3.out.low.cell (World.block_lt_of_cell? w _ fq9)).trans fq9); clear fq9
    have Hfq10 := Aside0.mk ((HM3.out.low.cell (World.block_lt_of_cell? w _ fq10)).trans fq10); clear fq10
    have J0 : (0 : Int) ≤ k := hk0
    have J1 : k < (m.f5.length : Int) := hlt
    have d1_ : decide (0 ≤ k) = true := decide_eq_true hk0
    have d2_ : decide (k < (m.f5.length : Int)) = true := decide_eq_true hlt
    refine pureF (i := 0) (k := 272) (v := .bool true) (bt 49 1) rfl rfl (any_of HT_.out (by kernel_rfl)) (fun _ _ _ h => h) HF rfl (by decide) (by intro wq; have e5 : b.tmps[5]?.getD undef = .bool true := HF.at rfl; go_simp) ?_
    clear HF b
    intro b HF
    refine pureF (i := 1) (k := 273) (v := .bool true) (bt 49 3) rfl rfl (any_of HT_.out (by kernel_rfl)) (fun _ _ _ h => h) HF rfl (by decide) (by intro wq; have e272 : b.tmps[272]?.getD undef = .bool true := HF.at rfl; go_simp) ?_
    clear HF b
    intro b HF
    refine pureF (i := 2) (k := 274) (v := .pointer (some ⟨w.heap.size, 5, none⟩)) (bt 49 7) rfl rfl (any_of HT_.out (by kernel_rfl)) (fun _ _ _ h => h) HF rfl (by decide) (by intro wq; have e2 : b.tmps[2]?.getD undef = .pointer (some ⟨w.heap.size, 0, none⟩) := HF.at rfl; go_simp) ?_
    clear HF b
    intro b HF
    refine takeF (i := 3) (k := 275) (v := .slice (some adE) m.f5.length a) (bt 49 15) rfl rfl (take_ofW HT_.out HW_.out (by kernel_rfl)) (fun _ _ _ h => h) HF rfl (by decide) (by intro wq hq; have e274 : b.tmps[274]?.getD undef = .pointer (some ⟨w.heap.size, 5, none⟩) := HF.at rfl; have c_ := pw_cell_below hq HX.out.1; go_simp) HS.out ?_
    clear HF b
    intro b HF
    refine pureF (i := 4) (k := 276) (v := .int .i64 k) (bt 49 31) rfl rfl (any_of HT_.out (by kernel_rfl)) (fun _ _ _ h => h) HF rfl (by decide) (by intro wq; have e11 : b.tmps[11]?.getD undef = .int .i64 k := HF.at rfl; go_simp) ?_
    clear HF b
    intro b HF
    refine pureF (i := 5) (k := 277) (v := .pointer (some (adE.add (k.toNat * 11)))) (bt 49 63) rfl rfl (any_of HT_.out (by kernel_rfl)) (fun _ _ _ h => h) HF rfl (by decide) (by intro wq; have e275 : b.tmps[275]?.getD undef = .slice (some adE) m.f5.length a := HF.at rfl; have e276 : b.tmps[276]?.getD undef = .int .i64 k := HF.at rfl; go_simp) ?_
    clear HF b
    intro b HF
    refine pureF (i := 6) (k := 278) (v := .pointer (some (adE.add (k.toNat * 11)))) (bt 49 127) rfl rfl (any_of HT_.out (by kernel_rfl)) (fun _ _ _ h => h) HF rfl (by decide) (by intro wq; have e277 : b.tmps[277]?.getD undef = .pointer (some (adE.add (k.toNat * 11))) := HF.at rfl; go_simp) ?_
    clear HF b
    intro b HF
    refine takeF (i := 7) (k := 279) (v := .int .i64 y.f0) (bt 49 255) rfl rfl (take_ofW HT_.out HW_.out (by kernel_rfl)) (fun _ _ _ h => h) HF rfl (by decide) (by intro wq hq; have e278 : b.tmps[278]?.getD undef = .pointer (some (adE.add (k.toNat * 11))) := HF.at rfl; have c_0 := pw_cell_below hq Heq0.out; go_simp) HS.out ?_
    clear HF b
    intro b HF
    refine pureF (i := 8) (k := 280) (v := .pointer (some ⟨w.heap.size + 1, 5, none⟩)) (bt 49 511) rfl rfl (any_of HT_.out (by kernel_rfl)) (fun _ _ _ h => h) HF rfl (by decide) (by intro wq; have e3 : b.tmps[3]?.getD undef = .pointer (some ⟨w.heap.size + 1, 0, none⟩) := HF.at rfl; go_simp) ?_
    clear HF b
    intro b HF
    refine takeF (i := 9) (k := 281) (v := .slice (some adF) m.f5.length c) (bt 49 1023) rfl rfl (take_ofW HT_.out HW_.out (by kernel_rfl)) (fun _ _ _ h => h) HF rfl (by decide) (by intro wq hq; have e280 : b.tmps[280]?.getD undef = .pointer (some ⟨w.heap.size + 1, 5, none⟩) := HF.at rfl; have c_ := pw_cell_below hq HX.out.2; go_simp) HS.out ?_
    clear HF b
    intro b HF
    refine pureF (i := 10) (k := 282) (v := .int .i64 k) (bt 49 2047) rfl rfl (any_of HT_.out (by kernel_rfl)) (fun _ _ _ h => h) HF rfl (by decide) (by intro wq; have e11 : b.tmps[11]?.getD undef = .int .i64 k := HF.at rfl; go_simp) ?_
    clear HF b
    intro b HF
    refine pureF (i := 11) (k := 283) (v := .pointer (some (adF.add (k.toNat * 11)))) (bt 49 4095) rfl rfl (any_of HT_.out (by kernel_rfl)) (fun _ _ _ h => h) HF rfl (by decide) (by intro wq; have e281 : b.tmps[281]?.getD undef = .slice (some adF) m.f5.length c := HF.at rfl; have e282 : b.tmps[282]?.getD undef = .int .i64 k := HF.at rfl; go_simp) ?_
    clear HF b
    intro b HF
    refine pureF (i := 12) (k := 284) (v := .pointer (some (adF.add (k.toNat * 11)))) (bt 49 8191) rfl rfl (any_of HT_.out (by kernel_rfl)) (fun _ _ _ h => h) HF rfl (by decide) (by intro wq; have e283 : b.tmps[283]?.getD undef = .pointer (some (adF.add (k.toNat * 11))) := HF.at rfl; go_simp) ?_
    clear HF b
    intro b HF
    refine takeF (i := 13) (k := 285) (v := .int .i64 y.f0) (bt 49 16383) rfl rfl (take_ofW HT_.out HW_.out (by kernel_rfl)) (fun _ _ _ h => h) HF rfl (by decide) (by intro wq hq; have e284 : b.tmps[284]?.getD undef = .pointer (some (adF.add (k.toNat * 11))) := HF.at rfl; have c_0 := pw_cell_below hq Hfq0.out; go_simp) HS.out ?_
    clear HF b
    intro b HF
    refine pureF (i := 14) (k := 286) (v := .bool true) (bt 49 32767) rfl rfl (any_of HT_.out (by kernel_rfl)) (fun _ _ _ h => h) HF rfl (by decide) (by intro wq; have e279 : b.tmps[279]?.getD undef = .int .i64 y.f0 := HF.at rfl; have e285 : b.tmps[285]?.getD undef = .int .i64 y.f0 := HF.at rfl; go_simp) ?_
    clear HF b
    intro b HF
    refine pureF (i := 15) (k := 287) (v := .bool true) (bt 49 65535) rfl rfl (any_of HT_.out (by kernel_rfl)) (fun _ _ _ h => h) HF rfl (by decide) (by intro wq; have e273 : b.tmps[273]?.getD undef = .bool true := HF.at rfl; have e286 : b.tmps[286]?.getD undef = .bool true := HF.at rfl; go_simp) ?_
    clear HF b
    intro b HF
    refine pureF (i := 16) (k := 288) (v := .bool true) (bt 49 131071) rfl rfl (any_of HT_.out (by kernel_rfl)) (fun _ _ _ h => h) HF rfl (by decide) (by intro wq; have e287 : b.tmps[287]?.getD undef = .bool true := HF.at rfl; go_simp) ?_
    clear HF b
    intro b HF
    refine pureF (i := 17) (k := 289) (v := .pointer (some ⟨w.heap.size, 5, none⟩)) (bt 49 262143) rfl rfl (any_of HT_.out (by kernel_rfl)) (fun _ _ _ h => h) HF rfl (by decide) (by intro wq; have e2 : b.tmps[2]?.getD undef = .pointer (some ⟨w.heap.size, 0, none⟩) := HF.at rfl; go_simp) ?_
    clear HF b
    intro b HF
    refine takeF (i := 18) (k := 290) (v := .slice (some adE) m.f5.length a) (bt 49 524287) rfl rfl (take_ofW HT_.out HW_.out (by kernel_rfl)) (fun _ _ _ h => h) HF rfl (by decide) (by intro wq hq; have e289 : b.tmps[289]?.getD undef = .pointer (some ⟨w.heap.size, 5, none⟩) := HF.at rfl; have c_ := pw_cell_below hq HX.out.1; go_simp) HS.out ?_
    clear HF b
    intro b HF
    refine pureF (i := 19) (k := 291) (v := .int .i64 k) (bt 49 1048575) rfl rfl (any_of HT_.out (by kernel_rfl)) (fun _ _ _ h => h) HF rfl (by decide) (by intro wq; have e11 : b.tmps[11]?.getD undef = .int .i64 k := HF.at rfl; go_simp) ?_
    clear HF b
    intro b HF
    refine pureF (i := 20) (k := 292) (v := .pointer (some (adE.add (k.toNat * 11)))) (bt 49 2097151) rfl rfl (any_of HT_.out (by kernel_rfl)) (fun _ _ _ h => h) HF rfl (by decide) (by intro wq; have e290 : b.tmps[290]?.getD undef = .slice (some adE) m.f5.length a := HF.at rfl; have e291 : b.tmps[291]?.getD undef = .int .i64 k := HF.at rfl; go_simp) ?_
    clear HF b
    intro b HF
    refine pureF (i := 21) (k := 293) (v := .pointer (some ⟨(adE.add (k.toNat * 11)).block, (adE.add (k.toNat * 11)).off + 1, none⟩)) (bt 49 4194303) rfl rfl (any_of HT_.out (by kernel_rfl)) (fun _ _ _ h => h) HF rfl (by decide) (by intro wq; have e292 : b.tmps[292]?.getD undef = .pointer (some (adE.add (k.toNat * 11))) := HF.at rfl; go_simp) ?_
    clear HF b
    intro b HF
    refine takeF (i := 22) (k := 294) (v := .bool y.f1) (bt 49 8388607) rfl rfl (take_ofW HT_.out HW_.out (by kernel_rfl)) (fun _ _ _ h => h) HF rfl (by decide) (by intro wq hq; have e293 : b.tmps[293]?.getD undef = .pointer (some ⟨(adE.add (k.toNat * 11)).block, (adE.add (k.toNat * 11)).off + 1, none⟩) := HF.at rfl; have c_1 := pw_cell_below hq Heq1.out; go_simp) HS.out ?_
    clear HF b
    intro b HF
    refine pureF (i := 23) (k := 295) (v := .pointer (some ⟨w.heap.size + 1, 5, none⟩)) (bt 49 16777215) rfl rfl (any_of HT_.out (by kernel_rfl)) (fun _ _ _ h => h) HF rfl (by decide) (by intro wq; have e3 : b.tmps[3]?.getD undef = .pointer (some ⟨w.heap.size + 1, 0, none⟩) := HF.at rfl; go_simp) ?_
    clear HF b
    intro b HF
    refine takeF (i := 24) (k := 296) (v := .slice (some adF) m.f5.length c) (bt 49 33554431) rfl rfl (take_ofW HT_.out HW_.out (by kernel_rfl)) (fun _ _ _ h => h) HF rfl (by decide) (by intro wq hq; have e295 : b.tmps[295]?.getD undef = .pointer (some ⟨w.heap.size + 1, 5, none⟩) := HF.at rfl; have c_ := pw_cell_below hq HX.out.2; go_simp) HS.out ?_
    clear HF b
    intro b HF
    refine pureF (i := 25) (k := 297) (v := .int .i64 k) (bt 49 67108863) rfl rfl (any_of HT_.out (by kernel_rfl)) (fun _ _ _ h => h) HF rfl (by decide) (by intro wq; have e11 : b.tmps[11]?.getD undef = .int .i64 k := HF.at rfl; go_simp) ?_
    clear HF b
    intro b HF
    refine pureF (i := 26) (k := 298) (v := .pointer (some (adF.add (k.toNat * 11)))) (bt 49 134217727) rfl rfl (any_of HT_.out (by kernel_rfl)) (fun _ _ _ h => h) HF rfl (by decide) (by intro wq; have e296 : b.tmps[296]?.getD undef = .slice (some adF) m.f5.length c := HF.at rfl; have e297 : b.tmps[297]?.getD undef = .int .i64 k := HF.at rfl; go_simp) ?_
    clear HF b
    intro b HF
    refine pureF (i := 27) (k := 299) (v := .pointer (some ⟨(adF.add (k.toNat * 11)).block, (adF.add (k.toNat * 11)).off + 1, none⟩)) (bt 49 268435455) rfl rfl (any_of HT_.out (by kernel_rfl)) (fun _ _ _ h => h) HF rfl (by decide) (by intro wq; have e298 : b.tmps[298]?.getD undef = .pointer (some (adF.add (k.toNat * 11))) := HF.at rfl; go_simp) ?_
    clear HF b
    intro b HF
    refine takeF (i := 28) (k := 300) (v := .bool y.f1) (bt 49 536870911) rfl rfl (take_ofW HT_.out HW_.out (by kernel_rfl)) (fun _ _ _ h => h) HF rfl (by decide) (by intro wq hq; have e299 : b.tmps[299]?.getD undef = .pointer (some ⟨(adF.add (k.toNat * 11)).block, (adF.add (k.toNat * 11)).off + 1, none⟩) := HF.at rfl; have c_1 := pw_cell_below hq Hfq1.out; go_simp) HS.out ?_
    clear HF b
    intro b HF
    refine pureF (i := 29) (k := 301) (v := .bool true) (bt 49 1073741823) rfl rfl (any_of HT_.out (by kernel_rfl)) (fun _ _ _ h => h) HF rfl (by decide) (by intro wq; have e294 : b.tmps[294]?.getD undef = .bool y.f1 := HF.at rfl; have e300 : b.tmps[300]?.getD undef = .bool y.f1 := HF.at rfl; go_simp) ?_
    clear HF b
    intro b HF
    refine pureF (i := 30) (k := 302) (v := .bool true) (bt 49 2147483647) rfl rfl (any_of HT_.out (by kernel_rfl)) (fun _ _ _ h => h) HF rfl (by decide) (by intro wq; have e288 : b.tmps[288]?.getD undef = .bool true := HF.at rfl; have e301 : b.tmps[301]?.getD undef = .bool true := HF.at rfl; go_simp) ?_
    clear HF b
    intro b HF
    refine pureF (i := 31) (k := 303) (v := .bool true) (bt 49 4294967295) rfl rfl (any_of HT_.out (by kernel_rfl)) (fun _ _ _ h => h) HF rfl (by decide) (by intro wq; have e302 : b.tmps[302]?.getD undef = .bool true := HF.at rfl; go_simp) ?_
    clear HF b
    intro b HF
    refine pureF (i := 32) (k := 304) (v := .pointer (some ⟨w.heap.size, 5, none⟩)) (bt 49 8589934591) rfl rfl (any_of HT_.out (by kernel_rfl)) (fun _ _ _ h => h) HF rfl (by decide) (by intro wq; have e2 : b.tmps[2]?.getD undef = .pointer (some ⟨w.heap.size, 0, none⟩) := HF.at rfl; go_simp) ?_
    clear HF b
    intro b HF
    refine takeF (i := 33) (k := 305) (v := .slice (some adE) m.f5.length a) (bt 49 17179869183) rfl rfl (take_ofW HT_.out HW_.out (by kernel_rfl)) (fun _ _ _ h => h) HF rfl (by decide) (by intro wq hq; have e304 : b.tmps[304]?.getD undef = .pointer (some ⟨w.heap.size, 5, none⟩) := HF.at rfl; have c_ := pw_cell_below hq HX.out.1; go_simp) HS.out ?_
    clear HF b
    intro b HF
    refine pureF (i := 34) (k := 306) (v := .int .i64 k) (bt 49 34359738367) rfl rfl (any_of HT_.out (by kernel_rfl)) (fun _ _ _ h => h) HF rfl (by decide) (by intro wq; have e11 : b.tmps[11]?.getD undef = .int .i64 k := HF.at rfl; go_simp) ?_
    clear HF b
    intro b HF
    refine pureF (i := 35) (k := 307) (v := .pointer (some (adE.add (k.toNat * 11)))) (bt 49 68719476735) rfl rfl (any_of HT_.out (by kernel_rfl)) (fun _ _ _ h => h) HF rfl (by decide) (by intro wq; have e305 : b.tmps[305]?.getD undef = .slice (some adE) m.f5.length a := HF.at rfl; have e306 : b.tmps[306]?.getD undef = .int .i64 k := HF.at rfl; go_simp) ?_
    clear HF b
    intro b HF
    refine pureF (i := 36) (k := 308) (v := .pointer (some ⟨(adE.add (k.toNat * 11)).block, (adE.add (k.toNat * 11)).off + 2, none⟩)) (bt 49 137438953471) rfl rfl (any_of HT_.out (by kernel_rfl)) (fun _ _ _ h => h) HF rfl (by decide) (by intro wq; have e307 : b.tmps[307]?.getD undef = .pointer (some (adE.add (k.toNat * 11))) := HF.at rfl; go_simp) ?_
    clear HF b
    intro b HF
    refine takeF (i := 37) (k := 309) (v := .agg #[.int .i64 y.f2.f0, .int .i64 y.f2.f1, .int .i64 y.f2.f2, .int .u64 y.f2.f3, .int .i64 y.f2.f4, .slice E5 y.f2.f5.length e5, .slice E6 y.f2.f6.length e6, .slice E7 y.f2.f7.length e7, .bool y.f2.f8]) (bt 49 274877906943) rfl rfl (take_ofW HT_.out HW_.out (by kernel_rfl)) (fun _ _ _ h => h) HF rfl (by decide) (by intro wq hq; have e308 : b.tmps[308]?.getD undef = .pointer (some ⟨(adE.add (k.toNat * 11)).block, (adE.add (k.toNat * 11)).off + 2, none⟩) := HF.at rfl; have c_2 := pw_cell_below hq Heq2.out; have c_3 := pw_cell_below hq Heq3.out; have c_4 := pw_cell_below hq Heq4.out; have c_5 := pw_cell_below hq Heq5.out; have c_6 := pw_cell_below hq Heq6.out; have c_7 := pw_cell_below hq Heq7.out; have c_8 := pw_cell_below hq Heq8.out; have c_9 := pw_cell_below hq Heq9.out; have c_10 := pw_cell_below hq Heq10.out; go_simp) HS.out ?_
    clear HF b
    intro b HF
    refine pureF (i := 39) (k := 311) (v := .pointer (some ⟨w.heap.size + 1, 5, none⟩)) (bt 49 824633720831) rfl rfl (any_of HT_.out (by kernel_rfl)) (fun _ _ _ h => h) HF rfl (by decide) (by intro wq; have e3 : b.tmps[3]?.getD undef = .pointer (some ⟨w.heap.size + 1, 0, none⟩) := HF.at rfl; go_simp) ?_
    clear HF b
    intro b HF
    refine takeF (i := 40) (k := 312) (v := .slice (some adF) m.f5.length c) (bt 49 1924145348607) rfl rfl (take_ofW HT_.out HW_.out (by kernel_rfl)) (fun _ _ _ h => h) HF rfl (by decide) (by intro wq hq; have e311 : b.tmps[311]?.getD undef = .pointer (some ⟨w.heap.size + 1, 5, none⟩) := HF.at rfl; have c_ := pw_cell_below hq HX.out.2; go_simp) HS.out ?_
    clear HF b
    intro b HF
    refine pureF (i := 41) (k := 313) (v := .int .i64 k) (bt 49 4123168604159) rfl rfl (any_of HT_.out (by kernel_rfl)) (fun _ _ _ h => h) HF rfl (by decide) (by intro wq; have e11 : b.tmps[11]?.getD undef = .int .i64 k := HF.at rfl; go_simp) ?_
    clear HF b
    intro b HF
    refine pureF (i := 42) (k := 314) (v := .pointer (some (adF.add (k.toNat * 11)))) (bt 49 8521215115263) rfl rfl (any_of HT_.out (by kernel_rfl)) (fun _ _ _ h => h) HF rfl (by decide) (by intro wq; have e312 : b.tmps[312]?.getD undef = .slice (some adF) m.f5.length c := HF.at rfl; have e313 : b.tmps[313]?.getD undef = .int .i64 k := HF.at rfl; go_simp) ?_
    clear HF b
    intro b HF
    refine pureF (i := 43) (k := 315) (v := .pointer (some ⟨(adF.add (k.toNat * 11)).block, (adF.add (k.toNat * 11)).off + 2, none⟩)) (bt 49 17317308137471) rfl rfl (any_of HT_.out (by kernel_rfl)) (fun _ _ _ h => h) HF rfl (by decide) (by intro wq; have e314 : b.tmps[314]?.getD undef = .pointer (some (adF.add (k.toNat * 11))) := HF.at rfl; go_simp) ?_
    clear HF b
    intro b HF
    refine takeF (i := 44) (k := 316) (v := .agg #[.int .i64 y.f2.f0, .int .i64 y.f2.f1, .int .i64 y.f2.f2, .int .u64 y.f2.f3, .int .i64 y.f2.f4, .slice F5 y.f2.f5.length f5, .slice F6 y.f2.f6.length f6, .slice F7 y.f2.f7.length f7, .bool y.f2.f8]) (bt 49 34909494181887) rfl rfl (take_ofW HT_.out HW_.out (by kernel_rfl)) (fun _ _ _ h => h) HF rfl (by decide) (by intro wq hq; have e315 : b.tmps[315]?.getD undef = .pointer (some ⟨(adF.add (k.toNat * 11)).block, (adF.add (k.toNat * 11)).off + 2, none⟩) := HF.at rfl; have c_2 := pw_cell_below hq Hfq2.out; have c_3 := pw_cell_below hq Hfq3.out; have c_4 := pw_cell_below hq Hfq4.out; have c_5 := pw_cell_below hq Hfq5.out; have c_6 := pw_cell_below hq Hfq6.out; have c_7 := pw_cell_below hq Hfq7.out; have c_8 := pw_cell_below hq Hfq8.out; have c_9 := pw_cell_below hq Hfq9.out; have c_10 := pw_cell_below hq Hfq10.out; go_simp) HS.out ?_
    clear HF b
    intro b HF
    refine oneF (i := 38) (k := 310) (bt 49 35184372088831) rfl rfl (one_of HT_.out (by kernel_rfl)) HF rfl (by decide) (fun K_ hK_ => ?_)
    have e309 : b.tmps[309]?.getD undef = .agg #[.int .i64 y.f2.f0, .int .i64 y.f2.f1, .int .i64 y.f2.f2, .int .u64 y.f2.f3, .int .i64 y.f2.f4, .slice E5 y.f2.f5.length e5, .slice E6 y.f2.f6.length e6, .slice E7 y.f2.f7.length e7, .bool y.f2.f8] := HF.at rfl
    go_simp
    clear e309
    refine (single_calls y.f2 HlE5.out (Kd.C_below (Kd.C_below HgE5.out HM3.out.low) HS.out) HlE6.out (Kd.C_below (Kd.C_below HgE6.out HM3.out.low) HS.out) HlE7.out (Kd.C_below (Kd.C_below HgE7.out HM3.out.low) HS.out)).mono ?_
    rintro e w4 ⟨gE, rfl, hC, hb_⟩
    have HCE := Aside0.mk hC
    have HSn := Aside0.mk (HS.out.trans (St.below_mono hb_ HS.out.size))
    clear hC hb_
    refine hK_.out _ _ HSn.out ?_
    clear hK_ K_ HS
    have HS := HSn
    clear HSn HF b
    intro b HF
    refine oneF (i := 45) (k := 317) (bt 49 70368744177663) rfl rfl (one_of HT_.out (by kernel_rfl)) HF rfl (by decide) (fun K_ hK_ => ?_)
    have e316 : b.tmps[316]?.getD undef = .agg #[.int .i64 y.f2.f0, .int .i64 y.f2.f1, .int .i64 y.f2.f2, .int .u64 y.f2.f3, .int .i64 y.f2.f4, .slice F5 y.f2.f5.length f5, .slice F6 y.f2.f6.length f6, .slice F7 y.f2.f7.length f7, .bool y.f2.f8] := HF.at rfl
    go_simp
    clear e316
    refine (single_calls y.f2 HlF5.out (Kd.C_below (Kd.C_below HgF5.out HM3.out.low) HS.out) HlF6.out (Kd.C_below (Kd.C_below HgF6.out HM3.out.low) HS.out) HlF7.out (Kd.C_below (Kd.C_below HgF7.out HM3.out.low) HS.out)).mono ?_
    rintro e w5 ⟨gF, rfl, hC, hb_⟩
    have HCF := Aside0.mk hC
    have HSn := Aside0.mk (HS.out.trans (St.below_mono hb_ HS.out.size))
    replace HCE := Aside0.mk (Kd.C_below HCE.out hb_)
    clear hC hb_
    refine hK_.out _ _ HSn.out ?_
    clear hK_ K_ HS
    have HS := HSn
    clear HSn HF b
    intro b HF
    refine oneF (i := 46) (k := 318) (bt 49 140737488355327) rfl rfl (one_of HT_.out (by kernel_rfl)) HF rfl (by decide) (fun K_ hK_ => ?_)
    have e310 : b.tmps[310]?.getD undef = .slice (some ⟨gE, 0, none⟩) 1 1 := HF.at rfl
    have e317 : b.tmps[317]?.getD undef = .slice (some ⟨gF, 0, none⟩) 1 1 := HF.at rfl
    go_simp
    clear e310 e317
    refine (sameIns_self [y.f2] _ _ _ _ _ HCE.out HCF.out).mono ?_
    rintro e w6 ⟨rfl, hb_⟩
    have HSn := Aside0.mk (HS.out.trans (St.below_mono hb_ HS.out.size))
    clear hb_
    refine hK_.out _ _ HSn.out ?_
    clear hK_ K_ HS
    have HS := HSn
    clear HSn HF b
    intro b HF
    refine pureF (i := 47) (k := 319) (v := .bool true) (bt 49 281474976710655) rfl rfl (any_of HT_.out (by kernel_rfl)) (fun _ _ _ h => h) HF rfl (by decide) (by intro wq; have e303 : b.tmps[303]?.getD undef = .bool true := HF.at rfl; have e318 : b.tmps[318]?.getD undef = .bool true := HF.at rfl; go_simp) ?_
    clear HF b
    intro b HF
    refine pureF (i := 48) (k := 5) (v := .bool true) (bt 49 562949953421311) rfl rfl (any_of HT_.out (by kernel_rfl)) (fun _ _ _ h => h) HF rfl (by decide) (by intro wq; have e319 : b.tmps[319]?.getD undef = .bool true := HF.at rfl; go_simp) ?_
    clear HF b
    intro b HF
    refine done_ (done_of HT_.out (by kernel_rfl)) ?_
    have HM9 := Aside0.mk (HM3.out.step HS.out)
    clear HT_ HW_ HM3 HS HX
    show Code.wp _ _ _ _ _
    refine wp_region_lit ?_
    replace HF := HF.sub [(11, .int .i64 k), (5, .bool true), (3, .pointer (some ⟨w.heap.size + 1, 0, none⟩)), (2, .pointer (some ⟨w.heap.size, 0, none⟩))] (List.forall_mem_cons.2 ⟨rfl, (List.forall_mem_cons.2 ⟨rfl, (List.forall_mem_cons.2 ⟨rfl, (List.forall_mem_cons.2 ⟨rfl, by intro p_ hp_; cases hp_⟩)⟩)⟩)⟩)
    refine listF rfl HF rfl (by decide) (v := .int .i64 k) (by have e11 : b.tmps[11]?.getD undef = .int .i64 k := HF.at rfl; go_simp) ?_
    clear HF b
    intro b HF
    refine listF rfl HF rfl (by decide) (v := .int .i64 (k + 1)) (by have e270 : b.tmps[270]?.getD undef = .int .i64 k := HF.at rfl; go_simp) ?_
    clear HF b
    intro b HF
    refine listF rfl HF rfl (by decide) (v := .int .i64 (k + 1)) (by have e271 : b.tmps[271]?.getD undef = .int .i64 (k + 1) := HF.at rfl; go_simp) ?_
    clear HF b
    intro b HF
    exact ⟨(m.f5.length - (k + 1).toNat : Nat), by omega, k + 1, by omega, by omega, HF.sub _ (List.forall_mem_cons.2 ⟨rfl, (List.forall_mem_cons.2 ⟨rfl, (List.forall_mem_cons.2 ⟨rfl, (List.forall_mem_cons.2 ⟨rfl, by intro p_ hp_; cases hp_⟩)⟩)⟩)⟩), HM9.out⟩
  · have D0 := Aside0.mk (show decide (k < (m.f5.length : Int)) = false from decide_eq_false hlt)
    have XA := Aside0.mk (show wr.cell? ⟨w.heap.size, 5, none⟩ = some (.slice A m.f5.length a) from (HM.out.a.cell 5).trans HA.out)
    refine listF rfl HF rfl (by decide) (v := .int .i64 k) (by have e11 : b.tmps[11]?.getD undef = .int .i64 k := HF.at rfl; go_simp) ?_
    clear HF b
    intro b HF
    refine listF rfl HF rfl (by decide) (v := .pointer (some ⟨w.heap.size, 5, none⟩)) (by have e2 : b.tmps[2]?.getD undef = .pointer (some ⟨w.heap.size, 0, none⟩) := HF.at rfl; go_simp) ?_
    clear HF b
    intro b HF
    refine listF rfl HF rfl (by decide) (v := .slice A m.f5.length a) (by have e266 : b.tmps[266]?.getD undef = .pointer (some ⟨w.heap.size, 5, none⟩) := HF.at rfl; have c_ := XA.out; go_simp) ?_
    clear HF b
    intro b HF
    refine listF rfl HF rfl (by decide) (v := .int .i64 (m.f5.length : Int)) (by have e267 : b.tmps[267]?.getD undef = .slice A m.f5.length a := HF.at rfl; go_simp) ?_
    clear HF b
    intro b HF
    refine listF rfl HF rfl (by decide) (v := .bool false) (by have e265 : b.tmps[265]?.getD undef = .int .i64 k := HF.at rfl; have e268 : b.tmps[268]?.getD undef = .int .i64 (m.f5.length : Int) := HF.at rfl; have d0_ := D0.out; go_simp) ?_
    clear HF b
    intro b HF
    show Code.wp _ _ _ _ _
    refine wp_cond_false (HF.get rfl) ?_
    refine wp_exit ?_
    show K _ _
    exact HKK.out _ _ (HF.sub _ (List.forall_mem_cons.2 ⟨rfl, (List.forall_mem_cons.2 ⟨rfl, (List.forall_mem_cons.2 ⟨rfl, by intro p_ hp_; cases hp_⟩)⟩)⟩)) HM.out
def same.T31 : Bool × List (List Nat × List Nat) := (true, [([], []), ([0], [0]), ([1], [1]), ([2, 1], [1, 2]), ([1], [1]), ([3, 4, 1], [1, 3, 4]), ([5, 1], [1, 5]), ([1], [1]), ([7, 1], [1, 7]), ([1], [1]), ([8, 9, 1], [1, 8, 9]), ([10, 1], [1, 10]), ([6, 11, 1], [1, 6, 11]), ([1, 12], [1, 12]), ([13, 1, 0, 1, 2, 3, 4, 5, 6, 7, 8, 9, 10, 11, 12, 13], [0, 13])])
def same.B31 : List Nat := [0, 1, 3, 7, 3, 31, 63, 3, 131, 3, 899, 1923, 4095, 8191, 16383]
theorem same.tab31 : rtab .any (opsOf Try.f19 31) = same.T31 := by kernel_rfl
theorem same.bits31 : waitsOk same.T31.2 same.B31 = true := by kernel_rfl
set_option maxHeartbeats 4000000 in
set_option maxRecDepth 100000 in
theorem sameL6 {w : World} {m : S61} {ca cb : Array Value} {A C : Option Addr} {a c : Nat} (ga : k74.C w A m.f6.length m.f6) (gc : k74.C w C m.f6.length m.f6) (ha : ca[6]? = some (.slice A m.f6.length a)) (hc : cb[6]? = some (.slice C m.f6.length c))
    {K : Act → World → Prop} {R : Ending → World → Prop} {a1 : Act} {w1 : World} (hF : Fr 464 a1 [(12, .int .i64 0), (5, .bool true), (3, .pointer (some ⟨w.heap.size + 1, 0, none⟩)), (2, .pointer (some ⟨w.heap.size, 0, none⟩))]) (hm : Sm w w1 ca cb)
    (hK : ∀ a' w', Fr 464 a' [(5, .bool true), (3, .pointer (some ⟨w.heap.size + 1, 0, none⟩)), (2, .pointer (some ⟨w.heap.size, 0, none⟩))] → Sm w w' ca cb → K a' w') : (blockOf Try.f19 12).wp Try.prog (Exit.then K (bodyPost Try.prog Try.f19 R)) a1 w1 := by
  have GA := Aside0.mk ga; have GC := Aside0.mk gc; have HA := Aside0.mk ha; have HC := Aside0.mk hc; have HKK := Aside0.mk hK
  clear ga gc ha hc hK
  refine wp_block ?_
  refine wp_loop_ghost (fun q_ b_ w_ => ∃ k : Int, 0 ≤ k ∧ (q_ : Int) + k = m.f6.length ∧ Fr 464 b_ [(12, .int .i64 k), (5, .bool true), (3, .pointer (some ⟨w.heap.size + 1, 0, none⟩)), (2, .pointer (some ⟨w.heap.size, 0, none⟩))] ∧ Sm w w_ ca cb) m.f6.length ⟨0, Int.le_refl _, by omega, hF, hm⟩ ?_
  clear hF hm
  rintro q b wr ⟨k, hk0, hk1, HF, hm⟩
  have HM := Aside0.mk hm
  clear hm
  refine wp_seq ?_
  refine wp_seq ?_
  refine wp_region_lit ?_
  by_cases hlt : k < (m.f6.length : Int)
  · have D0 := Aside0.mk (show decide (k < (m.f6.length : Int)) = true from decide_eq_true hlt)
    have XA := Aside0.mk (show wr.cell? ⟨w.heap.size, 6, none⟩ = some (.slice A m.f6.length a) from (HM.out.a.cell 6).trans HA.out)
    have ew : IntKind.i64.wrap (k + 1) = k + 1 := by have := Kd.C_max GA.out; rw [IntKind.wrap_i64]; omega
    refine listF rfl HF rfl (by decide) (v := .int .i64 k) (by have e12 : b.tmps[12]?.getD undef = .int .i64 k := HF.at rfl; go_simp) ?_
    clear HF b
    intro b HF
    refine listF rfl HF rfl (by decide) (v := .pointer (some ⟨w.heap.size, 6, none⟩)) (by have e2 : b.tmps[2]?.getD undef = .pointer (some ⟨w.heap.size, 0, none⟩) := HF.at rfl; go_simp) ?_
    clear HF b
    intro b HF
    refine listF rfl HF rfl (by decide) (v := .slice A m.f6.length a) (by have e321 : b.tmps[321]?.getD undef = .pointer (some ⟨w.heap.size, 6, none⟩) := HF.at rfl; have c_ := XA.out; go_simp) ?_
    clear HF b
    intro b HF
    refine listF rfl HF rfl (by decide) (v := .int .i64 (m.f6.length : Int)) (by have e322 : b.tmps[322]?.getD undef = .slice A m.f6.length a := HF.at rfl; go_simp) ?_
    clear HF b
    intro b HF
    refine listF rfl HF rfl (by decide) (v := .bool true) (by have e320 : b.tmps[320]?.getD undef = .int .i64 k := HF.at rfl; have e323 : b.tmps[323]?.getD undef = .int .i64 (m.f6.length : Int) := HF.at rfl; have d0_ := D0.out; go_simp) ?_
    clear HF b
    intro b HF
    show Code.wp _ _ _ _ _
    refine wp_cond_true (HF.get rfl) ?_
    refine wp_skip ?_
    show Code.wp _ _ _ _ _
    refine wp_seq ?_
    refine wp_block ?_
    replace HF := HF.sub [(12, .int .i64 k), (5, .bool true), (3, .pointer (some ⟨w.heap.size + 1, 0, none⟩)), (2, .pointer (some ⟨w.heap.size, 0, none⟩))] (List.forall_mem_cons.2 ⟨rfl, (List.forall_mem_cons.2 ⟨rfl, (List.forall_mem_cons.2 ⟨rfl, (List.forall_mem_cons.2 ⟨rfl, by intro p_ hp_; cases hp_⟩)⟩)⟩)⟩)
    clear XA
    obtain ⟨adE, eA, eq0, eq1, eq2⟩ := at_T74 GA.out k hk0 hlt
    cases eA
    obtain ⟨adF, eA, fq0, fq1, fq2⟩ := at_T74 GC.out k hk0 hlt
    cases eA
    generalize rd_T74 m.f6 k = y at *
    obtain ⟨w3, hw3⟩ : ∃ w3, w3 = wr.drew := ⟨_, rfl⟩
    have HM3 := Aside0.mk (show Sm w w3 ca cb by rw [hw3]; exact HM.out.step (Below.refl _ wr).drew)
    refine start_ (n := 15) (S := fun w' => Below w3.heap.size w3 w') (ds := []) (bt 15 0) (by kernel_rfl) rfl (by kernel_rfl) (by rw [hw3]; exact Below.refl _ _) (fun hHeld => ?_)
    refine with_tabW same.tab31 same.bits31 (fun HT_ HW_ => ?_)
    clear hHeld
    rw [← hw3]
    clear hw3 HM
    have HS := Aside0.mk (Below.refl w3.heap.size w3)
    have HX := Aside0.mk (And.intro (show w3.cell? ⟨w.heap.size, 6, none⟩ = some (.slice (some adE) m.f6.length a) from (HM3.out.a.cell 6).trans HA.out) (show w3.cell? ⟨w.heap.size + 1, 6, none⟩ = some (.slice (some adF) m.f6.length c) from (HM3.out.b.cell 6).trans HC.out))
    have Heq0 := Aside0.mk ((HM3.out.low.cell (World.block_lt_of_cell? w _ eq0)).trans eq0); clear eq0
    have Heq1 := Aside0.mk ((HM3.out.low.cell (World.block_lt_of_cell? w _ eq1)).trans eq1); clear eq1
    have Heq2 := Aside0.mk ((HM3.out.low.cell (World.block_lt_of_cell? w _ eq2)).trans eq2); clear eq2
    have Hfq0 := Aside0.mk ((HM3.out.low.cell (World.block_lt_of_cell? w _ fq0)).trans fq0); clear fq0
    have Hfq1 := Aside0.mk ((HM3.out.low.cell (World.block_lt_of_cell? w _ fq1)).trans fq1); clear fq1
    have Hfq2 := Aside0.mk ((HM3.out.low.cell (World.block_lt_of_cell? w _ fq2)).trans fq2); clear fq2
    have J0 : (0 : Int) ≤ k := hk0
    have J1 : k < (m.f6.length : Int) := hlt
    have d1_ : decide (0 ≤ k) = true := decide_eq_true hk0
    have d2_ : decide (k < (m.f6.length : Int)) = true := decide_eq_true hlt
    refine pureF (i := 0) (k := 327) (v := .bool true) (bt 15 1) rfl rfl (any_of HT_.out (by kernel_rfl)) (fun _ _ _ h => h) HF rfl (by decide) (by intro wq; have e5 : b.tmps[5]?.getD undef = .bool true := HF.at rfl; go_simp) ?_
    clear HF b
    intro b HF
    refine pureF (i := 1) (k := 328) (v := .bool true) (bt 15 3) rfl rfl (any_of HT_.out (by kernel_rfl)) (fun _ _ _ h => h) HF rfl (by decide) (by intro wq; have e327 : b.tmps[327]?.getD undef = .bool true := HF.at rfl; go_simp) ?_
    clear HF b
    intro b HF
    refine pureF (i := 2) (k := 329) (v := .pointer (some ⟨w.heap.size, 6, none⟩)) (bt 15 7) rfl rfl (any_of HT_.out (by kernel_rfl)) (fun _ _ _ h => h) HF rfl (by decide) (by intro wq; have e2 : b.tmps[2]?.getD undef = .pointer (some ⟨w.heap.size, 0, none⟩) := HF.at rfl; go_simp) ?_
    clear HF b
    intro b HF
    refine takeF (i := 3) (k := 330) (v := .slice (some adE) m.f6.length a) (bt 15 15) rfl rfl (take_ofW HT_.out HW_.out (by kernel_rfl)) (fun _ _ _ h => h) HF rfl (by decide) (by intro wq hq; have e329 : b.tmps[329]?.getD undef = .pointer (some ⟨w.heap.size, 6, none⟩) := HF.at rfl; have c_ := pw_cell_below hq HX.out.1; go_simp) HS.out ?_
    clear HF b
    intro b HF
    refine pureF (i := 4) (k := 331) (v := .int .i64 k) (bt 15 31) rfl rfl (any_of HT_.out (by kernel_rfl)) (fun _ _ _ h => h) HF rfl (by decide) (by intro wq; have e12 : b.tmps[12]?.getD undef = .int .i64 k := HF.at rfl; go_simp) ?_
    clear HF b
    intro b HF
    refine pureF (i := 5) (k := 332) (v := .pointer (some (adE.add (k.toNat * 3)))) (bt 15 63) rfl rfl (any_of HT_.out (by kernel_rfl)) (fun _ _ _ h => h) HF rfl (by decide) (by intro wq; have e330 : b.tmps[330]?.getD undef = .slice (some adE) m.f6.length a := HF.at rfl; have e331 : b.tmps[331]?.getD undef = .int .i64 k := HF.at rfl; go_simp) ?_
    clear HF b
    intro b HF
    refine takeF (i := 6) (k := 333) (v := .agg #[.string y.f0, .int .i64 y.f1, .int .i64 y.f2]) (bt 15 127) rfl rfl (take_ofW HT_.out HW_.out (by kernel_rfl)) (fun _ _ _ h => h) HF rfl (by decide) (by intro wq hq; have e332 : b.tmps[332]?.getD undef = .pointer (some (adE.add (k.toNat * 3))) := HF.at rfl; have c_0 := pw_cell_below hq Heq0.out; have c_1 := pw_cell_below hq Heq1.out; have c_2 := pw_cell_below hq Heq2.out; go_simp) HS.out ?_
    clear HF b
    intro b HF
    refine pureF (i := 7) (k := 334) (v := .pointer (some ⟨w.heap.size + 1, 6, none⟩)) (bt 15 255) rfl rfl (any_of HT_.out (by kernel_rfl)) (fun _ _ _ h => h) HF rfl (by decide) (by intro wq; have e3 : b.tmps[3]?.getD undef = .pointer (some ⟨w.heap.size + 1, 0, none⟩) := HF.at rfl; go_simp) ?_
    clear HF b
    intro b HF
    refine takeF (i := 8) (k := 335) (v := .slice (some adF) m.f6.length c) (bt 15 511) rfl rfl (take_ofW HT_.out HW_.out (by kernel_rfl)) (fun _ _ _ h => h) HF rfl (by decide) (by intro wq hq; have e334 : b.tmps[334]?.getD undef = .pointer (some ⟨w.heap.size + 1, 6, none⟩) := HF.at rfl; have c_ := pw_cell_below hq HX.out.2; go_simp) HS.out ?_
    clear HF b
    intro b HF
    refine pureF (i := 9) (k := 336) (v := .int .i64 k) (bt 15 1023) rfl rfl (any_of HT_.out (by kernel_rfl)) (fun _ _ _ h => h) HF rfl (by decide) (by intro wq; have e12 : b.tmps[12]?.getD undef = .int .i64 k := HF.at rfl; go_simp) ?_
    clear HF b
    intro b HF
    refine pureF (i := 10) (k := 337) (v := .pointer (some (adF.add (k.toNat * 3)))) (bt 15 2047) rfl rfl (any_of HT_.out (by kernel_rfl)) (fun _ _ _ h => h) HF rfl (by decide) (by intro wq; have e335 : b.tmps[335]?.getD undef = .slice (some adF) m.f6.length c := HF.at rfl; have e336 : b.tmps[336]?.getD undef = .int .i64 k := HF.at rfl; go_simp) ?_
    clear HF b
    intro b HF
    refine takeF (i := 11) (k := 338) (v := .agg #[.string y.f0, .int .i64 y.f1, .int .i64 y.f2]) (bt 15 4095) rfl rfl (take_ofW HT_.out HW_.out (by kernel_rfl)) (fun _ _ _ h => h) HF rfl (by decide) (by intro wq hq; have e337 : b.tmps[337]?.getD undef = .pointer (some (adF.add (k.toNat * 3))) := HF.at rfl; have c_0 := pw_cell_below hq Hfq0.out; have c_1 := pw_cell_below hq Hfq1.out; have c_2 := pw_cell_below hq Hfq2.out; go_simp) HS.out ?_
    clear HF b
    intro b HF
    refine pureF (i := 12) (k := 339) (v := .bool true) (bt 15 8191) rfl rfl (any_of HT_.out (by kernel_rfl)) (fun _ _ _ h => h) HF rfl (by decide) (by intro wq; have e333 : b.tmps[333]?.getD undef = .agg #[.string y.f0, .int .i64 y.f1, .int .i64 y.f2] := HF.at rfl; have e338 : b.tmps[338]?.getD undef = .agg #[.string y.f0, .int .i64 y.f1, .int .i64 y.f2] := HF.at rfl; go_simp) ?_
    clear HF b
    intro b HF
    refine pureF (i := 13) (k := 340) (v := .bool true) (bt 15 16383) rfl rfl (any_of HT_.out (by kernel_rfl)) (fun _ _ _ h => h) HF rfl (by decide) (by intro wq; have e328 : b.tmps[328]?.getD undef = .bool true := HF.at rfl; have e339 : b.tmps[339]?.getD undef = .bool true := HF.at rfl; go_simp) ?_
    clear HF b
    intro b HF
    refine pureF (i := 14) (k := 5) (v := .bool true) (bt 15 32767) rfl rfl (any_of HT_.out (by kernel_rfl)) (fun _ _ _ h => h) HF rfl (by decide) (by intro wq; have e340 : b.tmps[340]?.getD undef = .bool true := HF.at rfl; go_simp) ?_
    clear HF b
    intro b HF
    refine done_ (done_of HT_.out (by kernel_rfl)) ?_
    have HM9 := Aside0.mk (HM3.out.step HS.out)
    clear HT_ HW_ HM3 HS HX
    show Code.wp _ _ _ _ _
    refine wp_region_lit ?_
    replace HF := HF.sub [(12, .int .i64 k), (5, .bool true), (3, .pointer (some ⟨w.heap.size + 1, 0, none⟩)), (2, .pointer (some ⟨w.heap.size, 0, none⟩))] (List.forall_mem_cons.2 ⟨rfl, (List.forall_mem_cons.2 ⟨rfl, (List.forall_mem_cons.2 ⟨rfl, (List.forall_mem_cons.2 ⟨rfl, by intro p_ hp_; cases hp_⟩)⟩)⟩)⟩)
    refine listF rfl HF rfl (by decide) (v := .int .i64 k) (by have e12 : b.tmps[12]?.getD undef = .int .i64 k := HF.at rfl; go_simp) ?_
    clear HF b
    intro b HF
    refine listF rfl HF rfl (by decide) (v := .int .i64 (k + 1)) (by have e325 : b.tmps[325]?.getD undef = .int .i64 k := HF.at rfl; go_simp) ?_
    clear HF b
    intro b HF
    refine listF rfl HF rfl (by decide) (v := .int .i64 (k + 1)) (by have e326 : b.tmps[326]?.getD undef = .int .i64 (k + 1) := HF.at rfl; go_simp) ?_
    clear HF b
    intro b HF
    exact ⟨(m.f6.length - (k + 1).toNat : Nat), by omega, k + 1, by omega, by omega, HF.sub _ (List.forall_mem_cons.2 ⟨rfl, (List.forall_mem_cons.2 ⟨rfl, (List.forall_mem_cons.2 ⟨rfl, (List.forall_mem_cons.2 ⟨rfl, by intro p_ hp_; cases hp_⟩)⟩)⟩)⟩), HM9.out⟩
  · have D0 := Aside0.mk (show decide (k < (m.f6.length : Int)) = false from decide_eq_false hlt)
    have XA := Aside0.mk (show wr.cell? ⟨w.heap.size, 6, none⟩ = some (.slice A m.f6.length a) from (HM.out.a.cell 6).trans HA.out)
    refine listF rfl HF rfl (by decide) (v := .int .i64 k) (by have e12 : b.tmps[12]?.getD undef = .int .i64 k := HF.at rfl; go_simp) ?_
    clear HF b
    intro b HF
    refine listF rfl HF rfl (by decide) (v := .pointer (some ⟨w.heap.size, 6, none⟩)) (by have e2 : b.tmps[2]?.getD undef = .pointer (some ⟨w.heap.size, 0, none⟩) := HF.at rfl; go_simp) ?_
    clear HF b
    intro b HF
    refine listF rfl HF rfl (by decide) (v := .slice A m.f6.length a) (by have e321 : b.tmps[321]?.getD undef = .pointer (some ⟨w.heap.size, 6, none⟩) := HF.at rfl; have c_ := XA.out; go_simp) ?_
    clear HF b
    intro b HF
    refine listF rfl HF rfl (by decide) (v := .int .i64 (m.f6.length : Int)) (by have e322 : b.tmps[322]?.getD undef = .slice A m.f6.length a := HF.at rfl; go_simp) ?_
    clear HF b
    intro b HF
    refine listF rfl HF rfl (by decide) (v := .bool false) (by have e320 : b.tmps[320]?.getD undef = .int .i64 k := HF.at rfl; have e323 : b.tmps[323]?.getD undef = .int .i64 (m.f6.length : Int) := HF.at rfl; have d0_ := D0.out; go_simp) ?_
    clear HF b
    intro b HF
    show Code.wp _ _ _ _ _
    refine wp_cond_false (HF.get rfl) ?_
    refine wp_exit ?_
    show K _ _
    exact HKK.out _ _ (HF.sub _ (List.forall_mem_cons.2 ⟨rfl, (List.forall_mem_cons.2 ⟨rfl, (List.forall_mem_cons.2 ⟨rfl, by intro p_ hp_; cases hp_⟩)⟩)⟩)) HM.out
def same.T35 : Bool × List (List Nat × List Nat) := (true, [([], []), ([0], [0]), ([1], [1]), ([2, 1], [1, 2]), ([1], [1]), ([3, 4, 1], [1, 3, 4]), ([5, 1], [1, 5]), ([6, 1], [1, 6]), ([7, 1, 1], [1, 7]), ([1], [1]), ([9, 1], [1, 9]), ([1], [1]), ([10, 11, 1], [1, 10, 11]), ([12, 1], [1, 12]), ([13, 1], [1, 13]), ([14, 8, 1], [1, 14]), ([8, 15, 15, 1], [1, 8, 15]), ([1, 16], [1, 16]), ([17, 16], [17]), ([18], [18]), ([19, 18], [18, 19]), ([18], [18]), ([20, 21, 18], [18, 20, 21]), ([22, 18], [18, 22]), ([23, 18], [18, 23]), ([18], [18]), ([25, 18], [18, 25]), ([18], [18]), ([26, 27, 18], [18, 26, 27]), ([28, 18], [18, 28]), ([29, 18], [18, 29]), ([24, 30, 18, 18], [18, 24, 30]), ([18, 31], [18, 31]), ([32, 31, 0, 1, 2, 3, 4, 5, 6, 7, 8, 9, 10, 11, 12, 13, 14, 15, 16, 17, 18, 19, 20, 21, 22, 23, 24, 25, 26, 27, 28, 29, 30, 31, 32], [0, 32])])
def same.B35 : List Nat := [0, 1, 3, 7, 3, 31, 63, 127, 255, 3, 515, 3, 3587, 7683, 15875, 32767, 65535, 131071, 262143, 524287, 1048575, 524287, 4194303, 8388607, 16777215, 524287, 34078719, 524287, 235405311, 503840767, 1040711679, 2147483647, 4294967295, 8589934591]
theorem same.tab35 : rtab .any (opsOf Try.f19 35) = same.T35 := by kernel_rfl
theorem same.bits35 : waitsOk same.T35.2 same.B35 = true := by kernel_rfl
set_option maxHeartbeats 4000000 in
set_option maxRecDepth 100000 in
theorem sameL8 {w : World} {m : S61} {ca cb : Array Value} {A C : Option Addr} {a c : Nat} (ga : k108.C w A m.f8.length m.f8) (gc : k108.C w C m.f8.length m.f8) (ha : ca[8]? = some (.slice A m.f8.length a)) (hc : cb[8]? = some (.slice C m.f8.length c))
    {K : Act → World → Prop} {R : Ending → World → Prop} {a1 : Act} {w1 : World} (hF : Fr 464 a1 [(13, .int .i64 0), (5, .bool true), (3, .pointer (some ⟨w.heap.size + 1, 0, none⟩)), (2, .pointer (some ⟨w.heap.size, 0, none⟩))]) (hm : Sm w w1 ca cb)
    (hK : ∀ a' w', Fr 464 a' [(5, .bool true), (3, .pointer (some ⟨w.heap.size + 1, 0, none⟩)), (2, .pointer (some ⟨w.heap.size, 0, none⟩))] → Sm w w' ca cb → K a' w') : (blockOf Try.f19 14).wp Try.prog (Exit.then K (bodyPost Try.prog Try.f19 R)) a1 w1 := by
  have GA := Aside0.mk ga; have GC := Aside0.mk gc; have HA := Aside0.mk ha; have HC := Aside0.mk hc; have HKK := Aside0.mk hK
  clear ga gc ha hc hK
  refine wp_block ?_
  refine wp_loop_ghost (fun q_ b_ w_ => ∃ k : Int, 0 ≤ k ∧ (q_ : Int) + k = m.f8.length ∧ Fr 464 b_ [(13, .int .i64 k), (5, .bool true), (3, .pointer (some ⟨w.heap.size + 1, 0, none⟩)), (2, .pointer (some ⟨w.heap.size, 0, none⟩))] ∧ Sm w w_ ca cb) m.f8.length ⟨0, Int.le_refl _, by omega, hF, hm⟩ ?_
  clear hF hm
  rintro q b wr ⟨k, hk0, hk1, HF, hm⟩
  have HM := Aside0.mk hm
  clear hm
  refine wp_seq ?_
  refine wp_seq ?_
  refine wp_region_lit ?_
  by_cases hlt : k < (m.f8.length : Int)
  · have D0 := Aside0.mk (show decide (k < (m.f8.length : Int)) = true from decide_eq_true hlt)
    have XA := Aside0.mk (show wr.cell? ⟨w.heap.size, 8, none⟩ = some (.slice A m.f8.length a) from (HM.out.a.cell 8).trans HA.out)
    have ew : IntKind.i64.wrap (k + 1) = k + 1 := by have := Kd.C_max GA.out; rw [IntKind.wrap_i64]; omega
    refine listF rfl HF rfl (by decide) (v := .int .i64 k) (by have e13 : b.tmps[13]?.getD undef = .int .i64 k := HF.at rfl; go_simp) ?_
    clear HF b
    intro b HF
    refine listF rfl HF rfl (by decide) (v := .pointer (some ⟨w.heap.size, 8, none⟩)) (by have e2 : b.tmps[2]?.getD undef = .pointer (some ⟨w.heap.size, 0, none⟩) := HF.at rfl; go_simp) ?_
    clear HF b
    intro b HF
    refine listF rfl HF rfl (by decide) (v := .slice A m.f8.length a) (by have e342 : b.tmps[342]?.getD undef = .pointer (some ⟨w.heap.size, 8, none⟩) := HF.at rfl; have c_ := XA.out; go_simp) ?_
    clear HF b
    intro b HF
    refine listF rfl HF rfl (by decide) (v := .int .i64 (m.f8.length : Int)) (by have e343 : b.tmps[343]?.getD undef = .slice A m.f8.length a := HF.at rfl; go_simp) ?_
    clear HF b
    intro b HF
    refine listF rfl HF rfl (by decide) (v := .bool true) (by have e341 : b.tmps[341]?.getD undef = .int .i64 k := HF.at rfl; have e344 : b.tmps[344]?.getD undef = .int .i64 (m.f8.length : Int) := HF.at rfl; have d0_ := D0.out; go_simp) ?_
    clear HF b
    intro b HF
    show Code.wp _ _ _ _ _
    refine wp_cond_true (HF.get rfl) ?_
    refine wp_skip ?_
    show Code.wp _ _ _ _ _
    refine wp_seq ?_
    refine wp_block ?_
    replace HF := HF.sub [(13, .int .i64 k), (5, .bool true), (3, .pointer (some ⟨w.heap.size + 1, 0, none⟩)), (2, .pointer (some ⟨w.heap.size, 0, none⟩))] (List.forall_mem_cons.2 ⟨rfl, (List.forall_mem_cons.2 ⟨rfl, (List.forall_mem_cons.2 ⟨rfl, (List.forall_mem_cons.2 ⟨rfl, by intro p_ hp_; cases hp_⟩)⟩)⟩)⟩)
    clear XA
    obtain ⟨adE, E5, e5, E6, e6, E7, e7, E9, e9, eA, eq0, eq1, eq2, eq3, eq4, eq5, eq6, eq7, eq8, eq9, lE5, gE5, lE6, gE6, lE7, gE7, lE9, gE9⟩ := at_T108 GA.out k hk0 hlt
    cases eA
    obtain ⟨adF, F5, f5, F6, f6, F7, f7, F9, f9, eA, fq0, fq1, fq2, fq3, fq4, fq5, fq6, fq7, fq8, fq9, lF5, gF5, lF6, gF6, lF7, gF7, lF9, gF9⟩ := at_T108 GC.out k hk0 hlt
    cases eA
    generalize rd_T108 m.f8 k = y at *
    have HlE5 := Aside0.mk lE5; have HgE5 := Aside0.mk gE5; clear lE5 gE5
    have HlE6 := Aside0.mk lE6; have HgE6 := Aside0.mk gE6; clear lE6 gE6
    have HlE7 := Aside0.mk lE7; have HgE7 := Aside0.mk gE7; clear lE7 gE7
    have HlE9 := Aside0.mk lE9; have HgE9 := Aside0.mk gE9; clear lE9 gE9
    have HlF5 := Aside0.mk lF5; have HgF5 := Aside0.mk gF5; clear lF5 gF5
    have HlF6 := Aside0.mk lF6; have HgF6 := Aside0.mk gF6; clear lF6 gF6
    have HlF7 := Aside0.mk lF7; have HgF7 := Aside0.mk gF7; clear lF7 gF7
    have HlF9 := Aside0.mk lF9; have HgF9 := Aside0.mk gF9; clear lF9 gF9
    obtain ⟨w3, hw3⟩ : ∃ w3, w3 = wr.drew := ⟨_, rfl⟩
    have HM3 := Aside0.mk (show Sm w w3 ca cb by rw [hw3]; exact HM.out.step (Below.refl _ wr).drew)
    refine start_ (n := 34) (S := fun w' => Below w3.heap.size w3 w') (ds := []) (bt 34 0) (by kernel_rfl) rfl (by kernel_rfl) (by rw [hw3]; exact Below.refl _ _) (fun hHeld => ?_)
    refine with_tabW same.tab35 same.bits35 (fun HT_ HW_ => ?_)
    clear hHeld
    rw [← hw3]
    clear hw3 HM
    have HS := Aside0.mk (Below.refl w3.heap.size w3)
    have HX := Aside0.mk (And.intro (show w3.cell? ⟨w.heap.size, 8, none⟩ = some (.slice (some adE) m.f8.length a) from (HM3.out.a.cell 8).trans HA.out) (show w3.cell? ⟨w.heap.size + 1, 8, none⟩ = some (.slice (some adF) m.f8.length c) from (HM3.out.b.cell 8).trans HC.out))
    have Heq0 := Aside0.mk ((HM3.out.low.cell (World.block_lt_of_cell? w _ eq0)).trans eq0); clear eq0
    have Heq1 := Aside0.mk ((HM3.out.low.cell (World.block_lt_of_cell? w _ eq1)).trans eq1); clear eq1
    have Heq2 := Aside0.mk ((HM3.out.low.cell (World.block_lt_of_cell? w _ eq2)).trans eq2); clear eq2
    have Heq3 := Aside0.mk ((HM3.out.low.cell (World.block_lt_of_cell? w _ eq3)).trans eq3); clear eq3
    have Heq4 := Aside0.mk ((HM3.out.low.cell (World.block_lt_of_cell? w _ eq4)).trans eq4); clear eq4
    have Heq5 := Aside0.mk ((HM3.out.low.cell (World.block_lt_of_cell? w _ eq5)).trans eq5); clear eq5
    have Heq6 := Aside0.mk ((HM3.out.low.cell (World.block_lt_of_cell? w _ eq6)).trans eq6); clear eq6
    have Heq7 := Aside0.mk ((HM3.out.low.cell (World.block_lt_of_cell? w _ eq7)).trans eq7); clear eq7
    have Heq8 := Aside0.mk ((HM3.out.low.cell (World.block_lt_of_cell? w _ eq8)).trans eq8); clear eq8
    have Heq9 := Aside0.mk ((HM3.out.low.cell (World.block_lt_of_cell? w _ eq9)).trans eq9); clear eq9
    have Hfq0 := Aside0.mk ((HM3.out.low.cell (World.block_lt_of_cell? w _ fq0)).trans fq0); clear fq0
    have Hfq1 := Aside0.mk ((HM3.out.low.cell (World.block_lt_of_cell? w _ fq1)).trans fq1); clear fq1
    have Hfq2 := Aside0.mk ((HM3.out.low.cell (World.block_lt_of_cell? w _ fq2)).trans fq2); clear fq2
    have Hfq3 := Aside0.mk ((HM3.out.low.cell (World.block_lt_of_cell? w _ fq3)).trans fq3); clear fq3
    have Hfq4 := Aside0.mk ((HM3.out.low.cell (World.block_lt_of_cell? w _ fq4)).trans fq4); clear fq4
    have Hfq5 := Aside0.mk ((HM3.out.low.cell (World.block_lt_of_cell? w _ fq5)).trans fq5); clear fq5
    have Hfq6 := Aside0.mk ((HM3.out.low.cell (World.block_lt_of_cell? w _ fq6)).trans fq6); clear fq6
    have Hfq7 := Aside0.mk ((HM3.out.low.cell (World.block_lt_of_cell? w _ fq7)).trans fq7); clear fq7
    have Hfq8 := Aside0.mk ((HM3.out.low.cell (World.block_lt_of_cell? w _ fq8)).trans fq8); clear fq8
    have Hfq9 := Aside0.mk ((HM3.out.low.cell (World.block_lt_of_cell? w _ fq9)).trans fq9); clear fq9
    have J0 : (0 : Int) ≤ k := hk0
    have J1 : k < (m.f8.length : Int) := hlt
    have d1_ : decide (0 ≤ k) = true := decide_eq_true hk0
    have d2_ : decide (k < (m.f8.length : Int)) = true := decide_eq_true hlt
    refine pureF (i := 0) (k := 348) (v := .bool true) (bt 34 1) rfl rfl (any_of HT_.out (by kernel_rfl)) (fun _ _ _ h => h) HF rfl (by decide) (by intro wq; have e5 : b.tmps[5]?.getD undef = .bool true := HF.at rfl; go_simp) ?_
    clear HF b
    intro b HF
    refine pureF (i := 1) (k := 349) (v := .bool true) (bt 34 3) rfl rfl (any_of HT_.out (by kernel_rfl)) (fun _ _ _ h => h) HF rfl (by decide) (by intro wq; have e348 : b.tmps[348]?.getD undef = .bool true := HF.at rfl; go_simp) ?_
    clear HF b
    intro b HF
    refine pureF (i := 2) (k := 350) (v := .pointer (some ⟨w.heap.size, 8, none⟩)) (bt 34 7) rfl rfl (any_of HT_.out (by kernel_rfl)) (fun _ _ _ h => h) HF rfl (by decide) (by intro wq; have e2 : b.tmps[2]?.getD undef = .pointer (some ⟨w.heap.size, 0, none⟩) := HF.at rfl; go_simp) ?_
    clear HF b
    intro b HF
    refine takeF (i := 3) (k := 351) (v := .slice (some adE) m.f8.length a) (bt 34 15) rfl rfl (take_ofW HT_.out HW_.out (by kernel_rfl)) (fun _ _ _ h => h) HF rfl (by decide) (by intro wq hq; have e350 : b.tmps[350]?.getD undef = .pointer (some ⟨w.heap.size, 8, none⟩) := HF.at rfl; have c_ := pw_cell_below hq HX.out.1; go_simp) HS.out ?_
    clear HF b
    intro b HF
    refine pureF (i := 4) (k := 352) (v := .int .i64 k) (bt 34 31) rfl rfl (any_of HT_.out (by kernel_rfl)) (fun _ _ _ h => h) HF rfl (by decide) (by intro wq; have e13 : b.tmps[13]?.getD undef = .int .i64 k := HF.at rfl; go_simp) ?_
    clear HF b
    intro b HF
    refine pureF (i := 5) (k := 353) (v := .pointer (some (adE.add (k.toNat * 10)))) (bt 34 63) rfl rfl (any_of HT_.out (by kernel_rfl)) (fun _ _ _ h => h) HF rfl (by decide) (by intro wq; have e351 : b.tmps[351]?.getD undef = .slice (some adE) m.f8.length a := HF.at rfl; have e352 : b.tmps[352]?.getD undef = .int .i64 k := HF.at rfl; go_simp) ?_
    clear HF b
    intro b HF
    refine pureF (i := 6) (k := 354) (v := .pointer (some (adE.add (k.toNat * 10)))) (bt 34 127) rfl rfl (any_of HT_.out (by kernel_rfl)) (fun _ _ _ h => h) HF rfl (by decide) (by intro wq; have e353 : b.tmps[353]?.getD undef = .pointer (some (adE.add (k.toNat * 10))) := HF.at rfl; go_simp) ?_
    clear HF b
    intro b HF
    refine takeF (i := 7) (k := 355) (v := .agg #[.int .i64 y.f0.f0, .int .i64 y.f0.f1, .int .i64 y.f0.f2, .int .u64 y.f0.f3, .int .i64 y.f0.f4, .slice E5 y.f0.f5.length e5, .slice E6 y.f0.f6.length e6, .slice E7 y.f0.f7.length e7, .bool y.f0.f8]) (bt 34 255) rfl rfl (take_ofW HT_.out HW_.out (by kernel_rfl)) (fun _ _ _ h => h) HF rfl (by decide) (by intro wq hq; have e354 : b.tmps[354]?.getD undef = .pointer (some (adE.add (k.toNat * 10))) := HF.at rfl; have c_0 := pw_cell_below hq Heq0.out; have c_1 := pw_cell_below hq Heq1.out; have c_2 := pw_cell_below hq Heq2.out; have c_3 := pw_cell_below hq Heq3.out; have c_4 := pw_cell_below hq Heq4.out; have c_5 := pw_cell_below hq Heq5.out; have c_6 := pw_cell_below hq Heq6.out; have c_7 := pw_cell_below hq Heq7.out; have c_8 := pw_cell_below hq Heq8.out; go_simp) HS.out ?_
    clear HF b
    intro b HF
    refine pureF (i := 9) (k := 357) (v := .pointer (some ⟨w.heap.size + 1, 8, none⟩)) (bt 34 767) rfl rfl (any_of HT_.out (by kernel_rfl)) (fun _ _ _ h => h) HF rfl (by decide) (by intro wq; have e3 : b.tmps[3]?.getD undef = .pointer (some ⟨w.heap.size + 1, 0, none⟩) := HF.at rfl; go_simp) ?_
    clear HF b
    intro b HF
    refine takeF (i := 10) (k := 358) (v := .slice (some adF) m.f8.length c) (bt 34 1791) rfl rfl (take_ofW HT_.out HW_.out (by kernel_rfl)) (fun _ _ _ h => h) HF rfl (by decide) (by intro wq hq; have e357 : b.tmps[357]?.getD undef = .pointer (some ⟨w.heap.size + 1, 8, none⟩) := HF.at rfl; have c_ := pw_cell_below hq HX.out.2; go_simp) HS.out ?_
    clear HF b
    intro b HF
    refine pureF (i := 11) (k := 359) (v := .int .i64 k) (bt 34 3839) rfl rfl (any_of HT_.out (by kernel_rfl)) (fun _ _ _ h => h) HF rfl (by decide) (by intro wq; have e13 : b.tmps[13]?.getD undef = .int .i64 k := HF.at rfl; go_simp) ?_
    clear HF b
    intro b HF
    refine pureF (i := 12) (k := 360) (v := .pointer (some (adF.add (k.toNat * 10)))) (bt 34 7935) rfl rfl (any_of HT_.out (by kernel_rfl)) (fun _ _ _ h => h) HF rfl (by decide) (by intro wq; have e358 : b.tmps[358]?.getD undef = .slice (some adF) m.f8.length c := HF.at rfl; have e359 : b.tmps[359]?.getD undef = .int .i64 k := HF.at rfl; go_simp) ?_
    clear HF b
    intro b HF
    refine pureF (i := 13) (k := 361) (v := .pointer (some (adF.add (k.toNat * 10)))) (bt 34 16127) rfl rfl (any_of HT_.out (by kernel_rfl)) (fun _ _ _ h => h) HF rfl (by decide) (by intro wq; have e360 : b.tmps[360]?.getD undef = .pointer (some (adF.add (k.toNat * 10))) := HF.at rfl; go_simp) ?_
    clear HF b
    intro b HF
    refine takeF (i := 14) (k := 362) (v := .agg #[.int .i64 y.f0.f0, .int .i64 y.f0.f1, .int .i64 y.f0.f2, .int .u64 y.f0.f3, .int .i64 y.f0.f4, .slice F5 y.f0.f5.length f5, .slice F6 y.f0.f6.length f6, .slice F7 y.f0.f7.length f7, .bool y.f0.f8]) (bt 34 32511) rfl rfl (take_ofW HT_.out HW_.out (by kernel_rfl)) (fun _ _ _ h => h) HF rfl (by decide) (by intro wq hq; have e361 : b.tmps[361]?.getD undef = .pointer (some (adF.add (k.toNat * 10))) := HF.at rfl; have c_0 := pw_cell_below hq Hfq0.out; have c_1 := pw_cell_below hq Hfq1.out; have c_2 := pw_cell_below hq Hfq2.out; have c_3 := pw_cell_below hq Hfq3.out; have c_4 := pw_cell_below hq Hfq4.out; have c_5 := pw_cell_below hq Hfq5.out; have c_6 := pw_cell_below hq Hfq6.out; have c_7 := pw_cell_below hq Hfq7.out; have c_8 := pw_cell_below hq Hfq8.out; go_simp) HS.out ?_
    clear HF b
    intro b HF
    refine oneF (i := 8) (k := 356) (bt 34 32767) rfl rfl (one_of HT_.out (by kernel_rfl)) HF rfl (by decide) (fun K_ hK_ => ?_)
    have e355 : b.tmps[355]?.getD undef = .agg #[.int .i64 y.f0.f0, .int .i64 y.f0.f1, .int .i64 y.f0.f2, .int .u64 y.f0.f3, .int .i64 y.f0.f4, .slice E5 y.f0.f5.length e5, .slice E6 y.f0.f6.length e6, .slice E7 y.f0.f7.length e7, .bool y.f0.f8] := HF.at rfl
    go_simp
    clear e355
    refine (single_calls y.f0 HlE5.out (Kd.C_below (Kd.C_below HgE5.out HM3.out.low) HS.out) HlE6.out (Kd.C_below (Kd.C_below HgE6.out HM3.out.low) HS.out) HlE7.out (Kd.C_below (Kd.C_below HgE7.out HM3.out.low) HS.out)).mono ?_
    rintro e w4 ⟨gE, rfl, hC, hb_⟩
    have HCE := Aside0.mk hC
    have HSn := Aside0.mk (HS.out.trans (St.below_mono hb_ HS.out.size))
    clear hC hb_
    refine hK_.out _ _ HSn.out ?_
    clear hK_ K_ HS
    have HS := HSn
    clear HSn HF b
    intro b HF
    refine oneF (i := 15) (k := 363) (bt 34 65535) rfl rfl (one_of HT_.out (by kernel_rfl)) HF rfl (by decide) (fun K_ hK_ => ?_)
    have e362 : b.tmps[362]?.getD undef = .agg #[.int .i64 y.f0.f0, .int .i64 y.f0.f1, .int .i64 y.f0.f2, .int .u64 y.f0.f3, .int .i64 y.f0.f4, .slice F5 y.f0.f5.length f5, .slice F6 y.f0.f6.length f6, .slice F7 y.f0.f7.length f7, .bool y.f0.f8] := HF.at rfl
    go_simp
    clear e362
    refine (single_calls y.f0 HlF5.out (Kd.C_below (Kd.C_below HgF5.out HM3.out.low) HS.out) HlF6.out (Kd.C_below (Kd.C_below HgF6.out HM3.out.low) HS.out) HlF7.out (Kd.C_below (Kd.C_below HgF7.out HM3.out.low) HS.out)).mono ?_
    rintro e w5 ⟨gF, rfl, hC, hb_⟩
    have HCF := Aside0.mk hC
    have HSn := Aside0.mk (HS.out.trans (St.below_mono hb_ HS.out.size))
    replace HCE := Aside0.mk (Kd.C_below HCE.out hb_)
    clear hC hb_
    refine hK_.out _ _ HSn.out ?_
    clear hK_ K_ HS
    have HS := HSn
    clear HSn HF b
    intro b HF
    refine oneF (i := 16) (k := 364) (bt 34 131071) rfl rfl (one_of HT_.out (by kernel_rfl)) HF rfl (by decide) (fun K_ hK_ => ?_)
    have e356 : b.tmps[356]?.getD undef = .slice (some ⟨gE, 0, none⟩) 1 1 := HF.at rfl
    have e363 : b.tmps[363]?.getD undef = .slice (some ⟨gF, 0, none⟩) 1 1 := HF.at rfl
    go_simp
    clear e356 e363
    refine (sameIns_self [y.f0] _ _ _ _ _ HCE.out HCF.out).mono ?_
    rintro e w6 ⟨rfl, hb_⟩
    have HSn := Aside0.mk (HS.out.trans (St.below_mono hb_ HS.out.size))
    clear hb_
    refine hK_.out _ _ HSn.out ?_
    clear hK_ K_ HS
    have HS := HSn
    clear HSn HF b
    intro b HF
    refine pureF (i := 17) (k := 365) (v := .bool true) (bt 34 262143) rfl rfl (any_of HT_.out (by kernel_rfl)) (fun _ _ _ h => h) HF rfl (by decide) (by intro wq; have e349 : b.tmps[349]?.getD undef = .bool true := HF.at rfl; have e364 : b.tmps[364]?.getD undef = .bool true := HF.at rfl; go_simp) ?_
    clear HF b
    intro b HF
    refine pureF (i := 18) (k := 366) (v := .bool true) (bt 34 524287) rfl rfl (any_of HT_.out (by kernel_rfl)) (fun _ _ _ h => h) HF rfl (by decide) (by intro wq; have e365 : b.tmps[365]?.getD undef = .bool true := HF.at rfl; go_simp) ?_
    clear HF b
    intro b HF
    refine pureF (i := 19) (k := 367) (v := .pointer (some ⟨w.heap.size, 8, none⟩)) (bt 34 1048575) rfl rfl (any_of HT_.out (by kernel_rfl)) (fun _ _ _ h => h) HF rfl (by decide) (by intro wq; have e2 : b.tmps[2]?.getD undef = .pointer (some ⟨w.heap.size, 0, none⟩) := HF.at rfl; go_simp) ?_
    clear HF b
    intro b HF
    refine takeF (i := 20) (k := 368) (v := .slice (some adE) m.f8.length a) (bt 34 2097151) rfl rfl (take_ofW HT_.out HW_.out (by kernel_rfl)) (fun _ _ _ h => h) HF rfl (by decide) (by intro wq hq; have e367 : b.tmps[367]?.getD undef = .pointer (some ⟨w.heap.size, 8, none⟩) := HF.at rfl; have c_ := pw_cell_below hq HX.out.1; go_simp) HS.out ?_
    clear HF b
    intro b HF
    refine pureF (i := 21) (k := 369) (v := .int .i64 k) (bt 34 4194303) rfl rfl (any_of HT_.out (by kernel_rfl)) (fun _ _ _ h => h) HF rfl (by decide) (by intro wq; have e13 : b.tmps[13]?.getD undef = .int .i64 k := HF.at rfl; go_simp) ?_
    clear HF b
    intro b HF
    refine pureF (i := 22) (k := 370) (v := .pointer (some (adE.add (k.toNat * 10)))) (bt 34 8388607) rfl rfl (any_of HT_.out (by kernel_rfl)) (fun _ _ _ h => h) HF rfl (by decide) (by intro wq; have e368 : b.tmps[368]?.getD undef = .slice (some adE) m.f8.length a := HF.at rfl; have e369 : b.tmps[369]?.getD undef = .int .i64 k := HF.at rfl; go_simp) ?_
    clear HF b
    intro b HF
    refine pureF (i := 23) (k := 371) (v := .pointer (some ⟨(adE.add (k.toNat * 10)).block, (adE.add (k.toNat * 10)).off + 9, none⟩)) (bt 34 16777215) rfl rfl (any_of HT_.out (by kernel_rfl)) (fun _ _ _ h => h) HF rfl (by decide) (by intro wq; have e370 : b.tmps[370]?.getD undef = .pointer (some (adE.add (k.toNat * 10))) := HF.at rfl; go_simp) ?_
    clear HF b
    intro b HF
    refine takeF (i := 24) (k := 372) (v := .slice E9 y.f1.length e9) (bt 34 33554431) rfl rfl (take_ofW HT_.out HW_.out (by kernel_rfl)) (fun _ _ _ h => h) HF rfl (by decide) (by intro wq hq; have e371 : b.tmps[371]?.getD undef = .pointer (some ⟨(adE.add (k.toNat * 10)).block, (adE.add (k.toNat * 10)).off + 9, none⟩) := HF.at rfl; have c_9 := pw_cell_below hq Heq9.out; go_simp) HS.out ?_
    clear HF b
    intro b HF
    refine pureF (i := 25) (k := 373) (v := .pointer (some ⟨w.heap.size + 1, 8, none⟩)) (bt 34 67108863) rfl rfl (any_of HT_.out (by kernel_rfl)) (fun _ _ _ h => h) HF rfl (by decide) (by intro wq; have e3 : b.tmps[3]?.getD undef = .pointer (some ⟨w.heap.size + 1, 0, none⟩) := HF.at rfl; go_simp) ?_
    clear HF b
    intro b HF
    refine takeF (i := 26) (k := 374) (v := .slice (some adF) m.f8.length c) (bt 34 134217727) rfl rfl (take_ofW HT_.out HW_.out (by kernel_rfl)) (fun _ _ _ h => h) HF rfl (by decide) (by intro wq hq; have e373 : b.tmps[373]?.getD undef = .pointer (some ⟨w.heap.size + 1, 8, none⟩) := HF.at rfl; have c_ := pw_cell_below hq HX.out.2; go_simp) HS.out ?_
    clear HF b
    intro b HF
    refine pureF (i := 27) (k := 375) (v := .int .i64 k) (bt 34 268435455) rfl rfl (any_of HT_.out (by kernel_rfl)) (fun _ _ _ h => h) HF rfl (by decide) (by intro wq; have e13 : b.tmps[13]?.getD undef = .int .i64 k := HF.at rfl; go_simp) ?_
    clear HF b
    intro b HF
    refine pureF (i := 28) (k := 376) (v := .pointer (some (adF.add (k.toNat * 10)))) (bt 34 536870911) rfl rfl (any_of HT_.out (by kernel_rfl)) (fun _ _ _ h => h) HF rfl (by decide) (by intro wq; have e374 : b.tmps[374]?.getD undef = .slice (some adF) m.f8.length c := HF.at rfl; have e375 : b.tmps[375]?.getD undef = .int .i64 k := HF.at rfl; go_simp) ?_
    clear HF b
    intro b HF
    refine pureF (i := 29) (k := 377) (v := .pointer (some ⟨(adF.add (k.toNat * 10)).block, (adF.add (k.toNat * 10)).off + 9, none⟩)) (bt 34 1073741823) rfl rfl (any_of HT_.out (by kernel_rfl)) (fun _ _ _ h => h) HF rfl (by decide) (by intro wq; have e376 : b.tmps[376]?.getD undef = .pointer (some (adF.add (k.toNat * 10))) := HF.at rfl; go_simp) ?_
    clear HF b
    intro b HF
    refine takeF (i := 30) (k := 378) (v := .slice F9 y.f1.length f9) (bt 34 2147483647) rfl rfl (take_ofW HT_.out HW_.out (by kernel_rfl)) (fun _ _ _ h => h) HF rfl (by decide) (by intro wq hq; have e377 : b.tmps[377]?.getD undef = .pointer (some ⟨(adF.add (k.toNat * 10)).block, (adF.add (k.toNat * 10)).off + 9, none⟩) := HF.at rfl; have c_9 := pw_cell_below hq Hfq9.out; go_simp) HS.out ?_
    clear HF b
    intro b HF
    refine oneF (i := 31) (k := 379) (bt 34 4294967295) rfl rfl (one_of HT_.out (by kernel_rfl)) HF rfl (by decide) (fun K_ hK_ => ?_)
    have e372 : b.tmps[372]?.getD undef = .slice E9 y.f1.length e9 := HF.at rfl
    have e378 : b.tmps[378]?.getD undef = .slice F9 y.f1.length f9 := HF.at rfl
    go_simp
    clear e372 e378
    refine (ints_self _ (Kd.C_below (Kd.C_below HgE9.out HM3.out.low) HS.out) HlE9.out (Kd.C_below (Kd.C_below HgF9.out HM3.out.low) HS.out) HlF9.out).mono ?_
    rintro e _ ⟨rfl, ⟨nd, rfl⟩⟩
    have HSn := Aside0.mk (pw_below_drewN HS.out nd)
    refine hK_.out _ _ HSn.out ?_
    clear hK_ K_ HS
    have HS := HSn
    clear HSn HF b
    intro b HF
    refine pureF (i := 32) (k := 380) (v := .bool true) (bt 34 8589934591) rfl rfl (any_of HT_.out (by kernel_rfl)) (fun _ _ _ h => h) HF rfl (by decide) (by intro wq; have e366 : b.tmps[366]?.getD undef = .bool true := HF.at rfl; have e379 : b.tmps[379]?.getD undef = .bool true := HF.at rfl; go_simp) ?_
    clear HF b
    intro b HF
    refine pureF (i := 33) (k := 5) (v := .bool true) (bt 34 17179869183) rfl rfl (any_of HT_.out (by kernel_rfl)) (fun _ _ _ h => h) HF rfl (by decide) (by intro wq; have e380 : b.tmps[380]?.getD undef = .bool true := HF.at rfl; go_simp) ?_
    clear HF b
    intro b HF
    refine done_ (done_of HT_.out (by kernel_rfl)) ?_
    have HM9 := Aside0.mk (HM3.out.step HS.out)
    clear HT_ HW_ HM3 HS HX
    show Code.wp _ _ _ _ _
    refine wp_region_lit ?_
    replace HF := HF.sub [(13, .int .i64 k), (5, .bool true), (3, .pointer (some ⟨w.heap.size + 1, 0, none⟩)), (2, .pointer (some ⟨w.heap.size, 0, none⟩))] (List.forall_mem_cons.2 ⟨rfl, (List.forall_mem_cons.2 ⟨rfl, (List.forall_mem_cons.2 ⟨rfl, (List.forall_mem_cons.2 ⟨rfl, by intro p_ hp_; cases hp_⟩)⟩)⟩)⟩)
    refine listF rfl HF rfl (by decide) (v := .int .i64 k) (by have e13 : b.tmps[13]?.getD undef = .int .i64 k := HF.at rfl; go_simp) ?_
    clear HF b
    intro b HF
    refine listF rfl HF rfl (by decide) (v := .int .i64 (k + 1)) (by have e346 : b.tmps[346]?.getD undef = .int .i64 k := HF.at rfl; go_simp) ?_
    clear HF b
    intro b HF
    refine listF rfl HF rfl (by decide) (v := .int .i64 (k + 1)) (by have e347 : b.tmps[347]?.getD undef = .int .i64 (k + 1) := HF.at rfl; go_simp) ?_
    clear HF b
    intro b HF
    exact ⟨(m.f8.length - (k + 1).toNat : Nat), by omega, k + 1, by omega, by omega, HF.sub _ (List.forall_mem_cons.2 ⟨rfl, (List.forall_mem_cons.2 ⟨rfl, (List.forall_mem_cons.2 ⟨rfl, (List.forall_mem_cons.2 ⟨rfl, by intro p_ hp_; cases hp_⟩)⟩)⟩)⟩), HM9.out⟩
  · have D0 := Aside0.mk (show decide (k < (m.f8.length : Int)) = false from decide_eq_false hlt)
    have XA := Aside0.mk (show wr.cell? ⟨w.heap.size, 8, none⟩ = some (.slice A m.f8.length a) from (HM.out.a.cell 8).trans HA.out)
    refine listF rfl HF rfl (by decide) (v := .int .i64 k) (by have e13 : b.tmps[13]?.getD undef = .int .i64 k := HF.at rfl; go_simp) ?_
    clear HF b
    intro b HF
    refine listF rfl HF rfl (by decide) (v := .pointer (some ⟨w.heap.size, 8, none⟩)) (by have e2 : b.tmps[2]?.getD undef = .pointer (some ⟨w.heap.size, 0, none⟩) := HF.at rfl; go_simp) ?_
    clear HF b
    intro b HF
    refine listF rfl HF rfl (by decide) (v := .slice A m.f8.length a) (by have e342 : b.tmps[342]?.getD undef = .pointer (some ⟨w.heap.size, 8, none⟩) := HF.at rfl; have c_ := XA.out; go_simp) ?_
    clear HF b
    intro b HF
    refine listF rfl HF rfl (by decide) (v := .int .i64 (m.f8.length : Int)) (by have e343 : b.tmps[343]?.getD undef = .slice A m.f8.length a := HF.at rfl; go_simp) ?_
    clear HF b
    intro b HF
    refine listF rfl HF rfl (by decide) (v := .bool false) (by have e341 : b.tmps[341]?.getD undef = .int .i64 k := HF.at rfl; have e344 : b.tmps[344]?.getD undef = .int .i64 (m.f8.length : Int) := HF.at rfl; have d0_ := D0.out; go_simp) ?_
    clear HF b
    intro b HF
    show Code.wp _ _ _ _ _
    refine wp_cond_false (HF.get rfl) ?_
    refine wp_exit ?_
    show K _ _
    exact HKK.out _ _ (HF.sub _ (List.forall_mem_cons.2 ⟨rfl, (List.forall_mem_cons.2 ⟨rfl, (List.forall_mem_cons.2 ⟨rfl, by intro p_ hp_; cases hp_⟩)⟩)⟩)) HM.out
def same.T39 : Bool × List (List Nat × List Nat) := (true, [([], []), ([0], [0]), ([1], [1]), ([2, 1], [1, 2]), ([1], [1]), ([3, 4, 1], [1, 3, 4]), ([5, 1], [1, 5]), ([6, 1], [1, 6]), ([7, 1, 1], [1, 7]), ([1], [1]), ([9, 1], [1, 9]), ([1], [1]), ([10, 11, 1], [1, 10, 11]), ([12, 1], [1, 12]), ([13, 1], [1, 13]), ([14, 8, 1], [1, 14]), ([8, 15, 15, 1], [1, 8, 15]), ([1, 16], [1, 16]), ([17, 16], [17]), ([18], [18]), ([19, 18], [18, 19]), ([18], [18]), ([20, 21, 18], [18, 20, 21]), ([22, 18], [18, 22]), ([23, 18], [18, 23]), ([24, 18], [18, 24]), ([18], [18]), ([26, 18], [18, 26]), ([18], [18]), ([27, 28, 18], [18, 27, 28]), ([29, 18], [18, 29]), ([30, 18], [18, 30]), ([31, 18], [18, 31]), ([25, 32, 18], [18, 25, 32]), ([18, 33], [18, 33]), ([34, 18, 0, 1, 2, 3, 4, 5, 6, 7, 8, 9, 10, 11, 12, 13, 14, 15, 16, 17, 18, 19, 20, 21, 22, 23, 24, 25, 26, 27, 28, 29, 30, 31, 32, 33, 34], [0, 34])])
def same.B39 : List Nat := [0, 1, 3, 7, 3, 31, 63, 127, 255, 3, 515, 3, 3587, 7683, 15875, 32767, 65535, 131071, 262143, 524287, 1048575, 524287, 4194303, 8388607, 16777215, 33554431, 524287, 67633151, 524287, 470286335, 1007157247, 2080899071, 4228382719, 8589934591, 17179869183, 34359738367]
theorem same.tab39 : rtab .any (opsOf Try.f19 39) = same.T39 := by kernel_rfl
theorem same.bits39 : waitsOk same.T39.2 same.B39 = true := by kernel_rfl
set_option maxHeartbeats 4000000 in
set_option maxRecDepth 100000 in
theorem sameL9 {w : World} {m : S61} {ca cb : Array Value} {A C : Option Addr} {a c : Nat} (ga : k111.C w A m.f9.length m.f9) (gc : k111.C w C m.f9.length m.f9) (ha : ca[9]? = some (.slice A m.f9.length a)) (hc : cb[9]? = some (.slice C m.f9.length c))
    {K : Act → World → Prop} {R : Ending → World → Prop} {a1 : Act} {w1 : World} (hF : Fr 464 a1 [(14, .int .i64 0), (5, .bool true), (3, .pointer (some ⟨w.heap.size + 1, 0, none⟩)), (2, .pointer (some ⟨w.heap.size, 0, none⟩))]) (hm : Sm w w1 ca cb)
    (hK : ∀ a' w', Fr 464 a' [(5, .bool true), (3, .pointer (some ⟨w.heap.size + 1, 0, none⟩)), (2, .pointer (some ⟨w.heap.size, 0, none⟩))] → Sm w w' ca cb → K a' w') : (blockOf Try.f19 16).wp Try.prog (Exit.then K (bodyPost Try.prog Try.f19 R)) a1 w1 := by
  have GA := Aside0.mk ga; have GC := Aside0.mk gc; have HA := Aside0.mk ha; have HC := Aside0.mk hc; have HKK := Aside0.mk hK
  clear ga gc ha hc hK
  refine wp_block ?_
  refine wp_loop_ghost (fun q_ b_ w_ => ∃ k : Int, 0 ≤ k ∧ (q_ : Int) + k = m.f9.length ∧ Fr 464 b_ [(14, .int .i64 k), (5, .bool true), (3, .pointer (some ⟨w.heap.size + 1, 0, none⟩)), (2, .pointer (some ⟨w.heap.size, 0, none⟩))] ∧ Sm w w_ ca cb) m.f9.length ⟨0, Int.le_refl _, by omega, hF, hm⟩ ?_
  clear hF hm
  rintro q b wr ⟨k, hk0, hk1, HF, hm⟩
  have HM := Aside0.mk hm
  clear hm
  refine wp_seq ?_
  refine wp_seq ?_
  refine wp_region_lit ?_
  by_cases hlt : k < (m.f9.length : Int)
  · have D0 := Aside0.mk (show decide (k < (m.f9.length : Int)) = true from decide_eq_true hlt)
    have XA := Aside0.mk (show wr.cell? ⟨w.heap.size, 9, none⟩ = some (.slice A m.f9.length a) from (HM.out.a.cell 9).trans HA.out)
    have ew : IntKind.i64.wrap (k + 1) = k + 1 := by have := Kd.C_max GA.out; rw [IntKind.wrap_i64]; omega
    refine listF rfl HF rfl (by decide) (v := .int .i64 k) (by have e14 : b.tmps[14]?.getD undef = .int .i64 k := HF.at rfl; go_simp) ?_
    clear HF b
    intro b HF
    refine listF rfl HF rfl (by decide) (v := .pointer (some ⟨w.heap.size, 9, none⟩)) (by have e2 : b.tmps[2]?.getD undef = .pointer (some ⟨w.heap.size, 0, none⟩) := HF.at rfl; go_simp) ?_
    clear HF b
    intro b HF
    refine listF rfl HF rfl (by decide) (v := .slice A m.f9.length a) (by have e382 : b.tmps[382]?.getD undef = .pointer (some ⟨w.heap.size, 9, none⟩) := HF.at rfl; have c_ := XA.out; go_simp) ?_
    clear HF b
    intro b HF
    refine listF rfl HF rfl (by decide) (v := .int .i64 (m.f9.length : Int)) (by have e383 : b.tmps[383]?.getD undef = .slice A m.f9.length a := HF.at rfl; go_simp) ?_
    clear HF b
    intro b HF
    refine listF rfl HF rfl (by decide) (v := .bool true) (by have e381 : b.tmps[381]?.getD undef = .int .i64 k := HF.at rfl; have e384 : b.tmps[384]?.getD undef = .int .i64 (m.f9.length : Int) := HF.at rfl; have d0_ := D0.out; go_simp) ?_
    clear HF b
    intro b HF
    show Code.wp _ _ _ _ _
    refine wp_cond_true (HF.get rfl) ?_
    refine wp_skip ?_
    show Code.wp _ _ _ _ _
    refine wp_seq ?_
    refine wp_block ?_
    replace HF := HF.sub [(14, .int .i64 k), (5, .bool true), (3, .pointer (some ⟨w.heap.size + 1, 0, none⟩)), (2, .pointer (some ⟨w.heap.size, 0, none⟩))] (List.forall_mem_cons.2 ⟨rfl, (List.forall_mem_cons.2 ⟨rfl, (List.forall_mem_cons.2 ⟨rfl, (List.forall_mem_cons.2 ⟨rfl, by intro p_ hp_; cases hp_⟩)⟩)⟩)⟩)
    clear XA
    obtain ⟨adE, E5, e5, E6, e6, E7, e7, E9, e9, eA, eq0, eq1, eq2, eq3, eq4, eq5, eq6, eq7, eq8, eq9, lE5, gE5, lE6, gE6, lE7, gE7, lE9, gE9⟩ := at_T111 GA.out k hk0 hlt
    cases eA
    obtain ⟨adF, F5, f5, F6, f6, F7, f7, F9, f9, eA, fq0, fq1, fq2, fq3, fq4, fq5, fq6, fq7, fq8, fq9, lF5, gF5, lF6, gF6, lF7, gF7, lF9, gF9⟩ := at_T111 GC.out k hk0 hlt
    cases eA
    generalize rd_T111 m.f9 k = y at *
    have HlE5 := Aside0.mk lE5; have HgE5 := Aside0.mk gE5; clear lE5 gE5
    have HlE6 := Aside0.mk lE6; have HgE6 := Aside0.mk gE6; clear lE6 gE6
    have HlE7 := Aside0.mk lE7; have HgE7 := Aside0.mk gE7; clear lE7 gE7
    have HlE9 := Aside0.mk lE9; have HgE9 := Aside0.mk gE9; clear lE9 gE9
    have HlF5 := Aside0.mk lF5; have HgF5 := Aside0.mk gF5; clear lF5 gF5
    have HlF6 := Aside0.mk lF6; have HgF6 := Aside0.mk gF6; clear lF6 gF6
    have HlF7 := Aside0.mk lF7; have HgF7 := Aside0.mk gF7; clear lF7 gF7
    have HlF9 := Aside0.mk lF9; have HgF9 := Aside0.mk gF9; clear lF9 gF9
    obtain ⟨w3, hw3⟩ : ∃ w3, w3 = wr.drew := ⟨_, rfl⟩
    have HM3 := Aside0.mk (show Sm w w3 ca cb by rw [hw3]; exact HM.out.step (Below.refl _ wr).drew)
    refine start_ (n := 36) (S := fun w' => Below w3.heap.size w3 w') (ds := []) (bt 36 0) (by kernel_rfl) rfl (by kernel_rfl) (by rw [hw3]; exact Below.refl _ _) (fun hHeld => ?_)
    refine with_tabW same.tab39 same.bits39 (fun HT_ HW_ => ?_)
    clear hHeld
    rw [← hw3]
    clear hw3 HM
    have HS := Aside0.mk (Below.refl w3.heap.size w3)
    have HX := Aside0.mk (And.intro (show w3.cell? ⟨w.heap.size, 9, none⟩ = some (.slice (some adE) m.f9.length a) from (HM3.out.a.cell 9).trans HA.out) (show w3.cell? ⟨w.heap.size + 1, 9, none⟩ = some (.slice (some adF) m.f9.length c) from (HM3.out.b.cell 9).trans HC.out))
    have Heq0 := Aside0.mk ((HM3.out.low.cell (World.block_lt_of_cell? w _ eq0)).trans eq0); clear eq0
    have Heq1 := Aside0.mk ((HM3.out.low.cell (World.block_lt_of_cell? w _ eq1)).trans eq1); clear eq1
    have Heq2 := Aside0.mk ((HM3.out.low.cell (World.block_lt_of_cell? w _ eq2)).trans eq2); clear eq2
    have Heq3 := Aside0.mk ((HM3.out.low.cell (World.block_lt_of_cell? w _ eq3)).trans eq3); clear eq3
    have Heq4 := Aside0.mk ((HM3.out.low.cell (World.block_lt_of_cell? w _ eq4)).trans eq4); clear eq4
    have Heq5 := Aside0.mk ((HM3.out.low.cell (World.block_lt_of_cell? w _ eq5)).trans eq5); clear eq5
    have Heq6 := Aside0.mk ((HM3.out.low.cell (World.block_lt_of_cell? w _ eq6)).trans eq6); clear eq6
    have Heq7 := Aside0.mk ((HM3.out.low.cell (World.block_lt_of_cell? w _ eq7)).trans eq7); clear eq7
    have Heq8 := Aside0.mk ((HM3.out.low.cell (World.block_lt_of_cell? w _ eq8)).trans eq8); clear eq8
    have Heq9 := Aside0.mk ((HM3.out.low.cell (World.block_lt_of_cell? w _ eq9)).trans eq9); clear eq9
    have Hfq0 := Aside0.mk ((HM3.out.low.cell (World.block_lt_of_cell? w _ fq0)).trans fq0); clear fq0
    have Hfq1 := Aside0.mk ((HM3.out.low.cell (World.block_lt_of_cell? w _ fq1)).trans fq1); clear fq1
    have Hfq2 := Aside0.mk ((HM3.out.low.cell (World.block_lt_of_cell? w _ fq2)).trans fq2); clear fq2
    have Hfq3 := Aside0.mk ((HM3.out.low.cell (World.block_lt_of_cell? w _ fq3)).trans fq3); clear fq3
    have Hfq4 := Aside0.mk ((HM3.out.low.cell (World.block_lt_of_cell? w _ fq4)).trans fq4); clear fq4
    have Hfq5 := Aside0.mk ((HM3.out.low.cell (World.block_lt_of_cell? w _ fq5)).trans fq5); clear fq5
    have Hfq6 := Aside0.mk ((HM3.out.low.cell (World.block_lt_of_cell? w _ fq6)).trans fq6); clear fq6
    have Hfq7 := Aside0.mk ((HM3.out.low.cell (World.block_lt_of_cell? w _ fq7)).trans fq7); clear fq7
    have Hfq8 := Aside0.mk ((HM3.out.low.cell (World.block_lt_of_cell? w _ fq8)).trans fq8); clear fq8
    have Hfq9 := Aside0.mk ((HM3.out.low.cell (World.block_lt_of_cell? w _ fq9)).trans fq9); clear fq9
    have J0 : (0 : Int) ≤ k := hk0
    have J1 : k < (m.f9.length : Int) := hlt
    have d1_ : decide (0 ≤ k) = true := decide_eq_true hk0
    have d2_ : decide (k < (m.f9.length : Int)) = true := decide_eq_true hlt
    refine pureF (i := 0) (k := 388) (v := .bool true) (bt 36 1) rfl rfl (any_of HT_.out (by kernel_rfl)) (fun _ _ _ h => h) HF rfl (by decide) (by intro wq; have e5 : b.tmps[5]?.getD undef = .bool true := HF.at rfl; go_simp) ?_
    clear HF b
    intro b HF
    refine pureF (i := 1) (k := 389) (v := .bool true) (bt 36 3) rfl rfl (any_of HT_.out (by kernel_rfl)) (fun _ _ _ h => h) HF rfl (by decide) (by intro wq; have e388 : b.tmps[388]?.getD undef = .bool true := HF.at rfl; go_simp) ?_
    clear HF b
    intro b HF
    refine pureF (i := 2) (k := 390) (v := .pointer (some ⟨w.heap.size, 9, none⟩)) (bt 36 7) rfl rfl (any_of HT_.out (by kernel_rfl)) (fun _ _ _ h => h) HF rfl (by decide) (by intro wq; have e2 : b.tmps[2]?.getD undef = .pointer (some ⟨w.heap.size, 0, none⟩) := HF.at rfl; go_simp) ?_
    clear HF b
    intro b HF
    refine takeF (i := 3) (k := 391) (v := .slice (some adE) m.f9.length a) (bt 36 15) rfl rfl (take_ofW HT_.out HW_.out (by kernel_rfl)) (fun _ _ _ h => h) HF rfl (by decide) (by intro wq hq; have e390 : b.tmps[390]?.getD undef = .pointer (some ⟨w.heap.size, 9, none⟩) := HF.at rfl; have c_ := pw_cell_below hq HX.out.1; go_simp) HS.out ?_
    clear HF b
    intro b HF
    refine pureF (i := 4) (k := 392) (v := .int .i64 k) (bt 36 31) rfl rfl (any_of HT_.out (by kernel_rfl)) (fun _ _ _ h => h) HF rfl (by decide) (by intro wq; have e14 : b.tmps[14]?.getD undef = .int .i64 k := HF.at rfl; go_simp) ?_
    clear HF b
    intro b HF
    refine pureF (i := 5) (k := 393) (v := .pointer (some (adE.add (k.toNat * 10)))) (bt 36 63) rfl rfl (any_of HT_.out (by kernel_rfl)) (fun _ _ _ h => h) HF rfl (by decide) (by intro wq; have e391 : b.tmps[391]?.getD undef = .slice (some adE) m.f9.length a := HF.at rfl; have e392 : b.tmps[392]?.getD undef = .int .i64 k := HF.at rfl; go_simp) ?_
    clear HF b
    intro b HF
    refine pureF (i := 6) (k := 394) (v := .pointer (some (adE.add (k.toNat * 10)))) (bt 36 127) rfl rfl (any_of HT_.out (by kernel_rfl)) (fun _ _ _ h => h) HF rfl (by decide) (by intro wq; have e393 : b.tmps[393]?.getD undef = .pointer (some (adE.add (k.toNat * 10))) := HF.at rfl; go_simp) ?_
    clear HF b
    intro b HF
    refine takeF (i := 7) (k := 395) (v := .agg #[.int .i64 y.f0.f0, .int .i64 y.f0.f1, .int .i64 y.f0.f2, .int .u64 y.f0.f3, .int .i64 y.f0.f4, .slice E5 y.f0.f5.length e5, .slice E6 y.f0.f6.length e6, .slice E7 y.f0.f7.length e7, .bool y.f0.f8]) (bt 36 255) rfl rfl (take_ofW HT_.out HW_.out (by kernel_rfl)) (fun _ _ _ h => h) HF rfl (by decide) (by intro wq hq; have e394 : b.tmps[394]?.getD undef = .pointer (some (adE.add (k.toNat * 10))) := HF.at rfl; have c_0 := pw_cell_below hq Heq0.out; have c_1 := pw_cell_below hq Heq1.out; have c_2 := pw_cell_below hq Heq2.out; have c_3 := pw_cell_below hq Heq3.out; have c_4 := pw_cell_below hq Heq4.out; have c_5 := pw_cell_below hq Heq5.out; have c_6 := pw_cell_below hq Heq6.out; have c_7 := pw_cell_below hq Heq7.out; have c_8 := pw_cell_below hq Heq8.out; go_simp) HS.out ?_
    clear HF b
    intro b HF
    refine pureF (i := 9) (k := 397) (v := .pointer (some ⟨w.heap.size + 1, 9, none⟩)) (bt 36 767) rfl rfl (any_of HT_.out (by kernel_rfl)) (fun _ _ _ h => h) HF rfl (by decide) (by intro wq; have e3 : b.tmps[3]?.getD undef = .pointer (some ⟨w.heap.size + 1, 0, none⟩) := HF.at rfl; go_simp) ?_
    clear HF b
    intro b HF
    refine takeF (i := 10) (k := 398) (v := .slice (some adF) m.f9.length c) (bt 36 1791) rfl rfl (take_ofW HT_.out HW_.out (by kernel_rfl)) (fun _ _ _ h => h) HF rfl (by decide) (by intro wq hq; have e397 : b.tmps[397]?.getD undef = .pointer (some ⟨w.heap.size + 1, 9, none⟩) := HF.at rfl; have c_ := pw_cell_below hq HX.out.2; go_simp) HS.out ?_
    clear HF b
    intro b HF
    refine pureF (i := 11) (k := 399) (v := .int .i64 k) (bt 36 3839) rfl rfl (any_of HT_.out (by kernel_rfl)) (fun _ _ _ h => h) HF rfl (by decide) (by intro wq; have e14 : b.tmps[14]?.getD undef = .int .i64 k := HF.at rfl; go_simp) ?_
    clear HF b
    intro b HF
    refine pureF (i := 12) (k := 400) (v := .pointer (some (adF.add (k.toNat * 10)))) (bt 36 7935) rfl rfl (any_of HT_.out (by kernel_rfl)) (fun _ _ _ h => h) HF rfl (by decide) (by intro wq; have e398 : b.tmps[398]?.getD undef = .slice (some adF) m.f9.length c := HF.at rfl; have e399 : b.tmps[399]?.getD undef = .int .i64 k := HF.at rfl; go_simp) ?_
    clear HF b
    intro b HF
    refine pureF (i := 13) (k := 401) (v := .pointer (some (adF.add (k.toNat * 10)))) (bt 36 16127) rfl rfl (any_of HT_.out (by kernel_rfl)) (fun _ _ _ h => h) HF rfl (by decide) (by intro wq; have e400 : b.tmps[400]?.getD undef = .pointer (some (adF.add (k.toNat * 10))) := HF.at rfl; go_simp) ?_
    clear HF b
    intro b HF
    refine takeF (i := 14) (k := 402) (v := .agg #[.int .i64 y.f0.f0, .int .i64 y.f0.f1, .int .i64 y.f0.f2, .int .u64 y.f0.f3, .int .i64 y.f0.f4, .slice F5 y.f0.f5.length f5, .slice F6 y.f0.f6.length f6, .slice F7 y.f0.f7.length f7, .bool y.f0.f8]) (bt 36 32511) rfl rfl (take_ofW HT_.out HW_.out (by kernel_rfl)) (fun _ _ _ h => h) HF rfl (by decide) (by intro wq hq; have e401 : b.tmps[401]?.getD undef = .pointer (some (adF.add (k.toNat * 10))) := HF.at rfl; have c_0 := pw_cell_below hq Hfq0.out; have c_1 := pw_cell_below hq Hfq1.out; have c_2 := pw_cell_below hq Hfq2.out; have c_3 := pw_cell_below hq Hfq3.out; have c_4 := pw_cell_below hq Hfq4.out; have c_5 := pw_cell_below hq Hfq5.out; have c_6 := pw_cell_below hq Hfq6.out; have c_7 := pw_cell_below hq Hfq7.out; have c_8 := pw_cell_below hq Hfq8.out; go_simp) HS.out ?_
    clear HF b
    intro b HF
    refine oneF (i := 8) (k := 396) (bt 36 32767) rfl rfl (one_of HT_.out (by kernel_rfl)) HF rfl (by decide) (fun K_ hK_ => ?_)
    have e395 : b.tmps[395]?.getD undef = .agg #[.int .i64 y.f0.f0, .int .i64 y.f0.f1, .int .i64 y.f0.f2, .int .u64 y.f0.f3, .int .i64 y.f0.f4, .slice E5 y.f0.f5.length e5, .slice E6 y.f0.f6.length e6, .slice E7 y.f0.f7.length e7, .bool y.f0.f8] := HF.at rfl
    go_simp
    clear e395
    refine (single_calls y.f0 HlE5.out (Kd.C_below (Kd.C_below HgE5.out HM3.out.low) HS.out) HlE6.out (Kd.C_below (Kd.C_below HgE6.out HM3.out.low) HS.out) HlE7.out (Kd.C_below (Kd.C_below HgE7.out HM3.out.low) HS.out)).mono ?_
    rintro e w4 ⟨gE, rfl, hC, hb_⟩
    have HCE := Aside0.mk hC
    have HSn := Aside0.mk (HS.out.trans (St.below_mono hb_ HS.out.size))
    clear hC hb_
    refine hK_.out _ _ HSn.out ?_
    clear hK_ K_ HS
    have HS := HSn
    clear HSn HF b
    intro b HF
    refine oneF (i := 15) (k := 403) (bt 36 65535) rfl rfl (one_of HT_.out (by kernel_rfl)) HF rfl (by decide) (fun K_ hK_ => ?_)
    have e402 : b.tmps[402]?.getD undef = .agg #[.int .i64 y.f0.f0, .int .i64 y.f0.f1, .int .i64 y.f0.f2, .int .u64 y.f0.f3, .int .i64 y.f0.f4, .slice F5 y.f0.f5.length f5, .slice F6 y.f0.f6.length f6, .slice F7 y.f0.f7.length f7, .bool y.f0.f8] := HF.at rfl
    go_simp
    clear e402
    refine (single_calls y.f0 HlF5.out (Kd.C_below (Kd.C_below HgF5.out HM3.out.low) HS.out) HlF6.out (Kd.C_below (Kd.C_below HgF6.out HM3.out.low) HS.out) HlF7.out (Kd.C_below (Kd.C_below HgF7.out HM3.out.low) HS.out)).mono ?_
    rintro e w5 ⟨gF, rfl, hC, hb_⟩
    have HCF := Aside0.mk hC
    have HSn := Aside0.mk (HS.out.trans (St.below_mono hb_ HS.out.size))
    replace HCE := Aside0.mk (Kd.C_below HCE.out hb_)
    clear hC hb_
    refine hK_.out _ _ HSn.out ?_
    clear hK_ K_ HS
    have HS := HSn
    clear HSn HF b
    intro b HF
    refine oneF (i := 16) (k := 404) (bt 36 131071) rfl rfl (one_of HT_.out (by kernel_rfl)) HF rfl (by decide) (fun K_ hK_ => ?_)
    have e396 : b.tmps[396]?.getD undef = .slice (some ⟨gE, 0, none⟩) 1 1 := HF.at rfl
    have e403 : b.tmps[403]?.getD undef = .slice (some ⟨gF, 0, none⟩) 1 1 := HF.at rfl
    go_simp
    clear e396 e403
    refine (sameIns_self [y.f0] _ _ _ _ _ HCE.out HCF.out).mono ?_
    rintro e w6 ⟨rfl, hb_⟩
    have HSn := Aside0.mk (HS.out.trans (St.below_mono hb_ HS.out.size))
    clear hb_
    refine hK_.out _ _ HSn.out ?_
    clear hK_ K_ HS
    have HS := HSn
    clear HSn HF b
    intro b HF
    refine pureF (i := 17) (k := 405) (v := .bool true) (bt 36 262143) rfl rfl (any_of HT_.out (by kernel_rfl)) (fun _ _ _ h => h) HF rfl (by decide) (by intro wq; have e389 : b.tmps[389]?.getD undef = .bool true := HF.at rfl; have e404 : b.tmps[404]?.getD undef = .bool true := HF.at rfl; go_simp) ?_
    clear HF b
    intro b HF
    refine pureF (i := 18) (k := 406) (v := .bool true) (bt 36 524287) rfl rfl (any_of HT_.out (by kernel_rfl)) (fun _ _ _ h => h) HF rfl (by decide) (by intro wq; have e405 : b.tmps[405]?.getD undef = .bool true := HF.at rfl; go_simp) ?_
    clear HF b
    intro b HF
    refine pureF (i := 19) (k := 407) (v := .pointer (some ⟨w.heap.size, 9, none⟩)) (bt 36 1048575) rfl rfl (any_of HT_.out (by kernel_rfl)) (fun _ _ _ h => h) HF rfl (by decide) (by intro wq; have e2 : b.tmps[2]?.getD undef = .pointer (some ⟨w.heap.size, 0, none⟩) := HF.at rfl; go_simp) ?_
    clear HF b
    intro b HF
    refine takeF (i := 20) (k := 408) (v := .slice (some adE) m.f9.length a) (bt 36 2097151) rfl rfl (take_ofW HT_.out HW_.out (by kernel_rfl)) (fun _ _ _ h => h) HF rfl (by decide) (by intro wq hq; have e407 : b.tmps[407]?.getD undef = .pointer (some ⟨w.heap.size, 9, none⟩) := HF.at rfl; have c_ := pw_cell_below hq HX.out.1; go_simp) HS.out ?_
    clear HF b
    intro b HF
    refine pureF (i := 21) (k := 409) (v := .int .i64 k) (bt 36 4194303) rfl rfl (any_of HT_.out (by kernel_rfl)) (fun _ _ _ h => h) HF rfl (by decide) (by intro wq; have e14 : b.tmps[14]?.getD undef = .int .i64 k := HF.at rfl; go_simp) ?_
    clear HF b
    intro b HF
    refine pureF (i := 22) (k := 410) (v := .pointer (some (adE.add (k.toNat * 10)))) (bt 36 8388607) rfl rfl (any_of HT_.out (by kernel_rfl)) (fun _ _ _ h => h) HF rfl (by decide) (by intro wq; have e408 : b.tmps[408]?.getD undef = .slice (some adE) m.f9.length a := HF.at rfl; have e409 : b.tmps[409]?.getD undef = .int .i64 k := HF.at rfl; go_simp) ?_
    clear HF b
    intro b HF
    refine pureF (i := 23) (k := 411) (v := .pointer (some ⟨(adE.add (k.toNat * 10)).block, (adE.add (k.toNat * 10)).off + 9, none⟩)) (bt 36 16777215) rfl rfl (any_of HT_.out (by kernel_rfl)) (fun _ _ _ h => h) HF rfl (by decide) (by intro wq; have e410 : b.tmps[410]?.getD undef = .pointer (some (adE.add (k.toNat * 10))) := HF.at rfl; go_simp) ?_
    clear HF b
    intro b HF
    refine takeF (i := 24) (k := 412) (v := .slice E9 y.f1.length e9) (bt 36 33554431) rfl rfl (take_ofW HT_.out HW_.out (by kernel_rfl)) (fun _ _ _ h => h) HF rfl (by decide) (by intro wq hq; have e411 : b.tmps[411]?.getD undef = .pointer (some ⟨(adE.add (k.toNat * 10)).block, (adE.add (k.toNat * 10)).off + 9, none⟩) := HF.at rfl; have c_9 := pw_cell_below hq Heq9.out; go_simp) HS.out ?_
    clear HF b
    intro b HF
    refine takeF (i := 25) (k := 413) (v := .string (strOfNums y.f1)) (bt 36 67108863) rfl rfl (take_ofW HT_.out HW_.out (by kernel_rfl)) (fun _ _ _ h => h) HF rfl (by decide) (by intro wq hq; have e412 : b.tmps[412]?.getD undef = .slice E9 y.f1.length e9 := HF.at rfl; have c_ : (convert 109 9 (.slice E9 y.f1.length e9)).run Try.prog wq = .ok (.string (strOfNums y.f1)) wq := Kd.C_string Try.underlying109 Try.underlying5 Try.underlying9 (Kd.C_below (Kd.C_below HgE9.out HM3.out.low) hq); go_simp) HS.out ?_
    clear HF b
    intro b HF
    refine pureF (i := 26) (k := 414) (v := .pointer (some ⟨w.heap.size + 1, 9, none⟩)) (bt 36 134217727) rfl rfl (any_of HT_.out (by kernel_rfl)) (fun _ _ _ h => h) HF rfl (by decide) (by intro wq; have e3 : b.tmps[3]?.getD undef = .pointer (some ⟨w.heap.size + 1, 0, none⟩) := HF.at rfl; go_simp) ?_
    clear HF b
    intro b HF
    refine takeF (i := 27) (k := 415) (v := .slice (some adF) m.f9.length c) (bt 36 268435455) rfl rfl (take_ofW HT_.out HW_.out (by kernel_rfl)) (fun _ _ _ h => h) HF rfl (by decide) (by intro wq hq; have e414 : b.tmps[414]?.getD undef = .pointer (some ⟨w.heap.size + 1, 9, none⟩) := HF.at rfl; have c_ := pw_cell_below hq HX.out.2; go_simp) HS.out ?_
    clear HF b
    intro b HF
    refine pureF (i := 28) (k := 416) (v := .int .i64 k) (bt 36 536870911) rfl rfl (any_of HT_.out (by kernel_rfl)) (fun _ _ _ h => h) HF rfl (by decide) (by intro wq; have e14 : b.tmps[14]?.getD undef = .int .i64 k := HF.at rfl; go_simp) ?_
    clear HF b
    intro b HF
    refine pureF (i := 29) (k := 417) (v := .pointer (some (adF.add (k.toNat * 10)))) (bt 36 1073741823) rfl rfl (any_of HT_.out (by kernel_rfl)) (fun _ _ _ h => h) HF rfl (by decide) (by intro wq; have e415 : b.tmps[415]?.getD undef = .slice (some adF) m.f9.length c := HF.at rfl; have e416 : b.tmps[416]?.getD undef = .int .i64 k := HF.at rfl; go_simp) ?_
    clear HF b
    intro b HF
    refine pureF (i := 30) (k := 418) (v := .pointer (some ⟨(adF.add (k.toNat * 10)).block, (adF.add (k.toNat * 10)).off + 9, none⟩)) (bt 36 2147483647) rfl rfl (any_of HT_.out (by kernel_rfl)) (fun _ _ _ h => h) HF rfl (by decide) (by intro wq; have e417 : b.tmps[417]?.getD undef = .pointer (some (adF.add (k.toNat * 10))) := HF.at rfl; go_simp) ?_
    clear HF b
    intro b HF
    refine takeF (i := 31) (k := 419) (v := .slice F9 y.f1.length f9) (bt 36 4294967295) rfl rfl (take_ofW HT_.out HW_.out (by kernel_rfl)) (fun _ _ _ h => h) HF rfl (by decide) (by intro wq hq; have e418 : b.tmps[418]?.getD undef = .pointer (some ⟨(adF.add (k.toNat * 10)).block, (adF.add (k.toNat * 10)).off + 9, none⟩) := HF.at rfl; have c_9 := pw_cell_below hq Hfq9.out; go_simp) HS.out ?_
    clear HF b
    intro b HF
    refine takeF (i := 32) (k := 420) (v := .string (strOfNums y.f1)) (bt 36 8589934591) rfl rfl (take_ofW HT_.out HW_.out (by kernel_rfl)) (fun _ _ _ h => h) HF rfl (by decide) (by intro wq hq; have e419 : b.tmps[419]?.getD undef = .slice F9 y.f1.length f9 := HF.at rfl; have c_ : (convert 109 9 (.slice F9 y.f1.length f9)).run Try.prog wq = .ok (.string (strOfNums y.f1)) wq := Kd.C_string Try.underlying109 Try.underlying5 Try.underlying9 (Kd.C_below (Kd.C_below HgF9.out HM3.out.low) hq); go_simp) HS.out ?_
    clear HF b
    intro b HF
    refine pureF (i := 33) (k := 421) (v := .bool true) (bt 36 17179869183) rfl rfl (any_of HT_.out (by kernel_rfl)) (fun _ _ _ h => h) HF rfl (by decide) (by intro wq; have e413 : b.tmps[413]?.getD undef = .string (strOfNums y.f1) := HF.at rfl; have e420 : b.tmps[420]?.getD undef = .string (strOfNums y.f1) := HF.at rfl; go_simp) ?_
    clear HF b
    intro b HF
    refine pureF (i := 34) (k := 422) (v := .bool true) (bt 36 34359738367) rfl rfl (any_of HT_.out (by kernel_rfl)) (fun _ _ _ h => h) HF rfl (by decide) (by intro wq; have e406 : b.tmps[406]?.getD undef = .bool true := HF.at rfl; have e421 : b.tmps[421]?.getD undef = .bool true := HF.at rfl; go_simp) ?_
    clear HF b
    intro b HF
    refine pureF (i := 35) (k := 5) (v := .bool true) (bt 36 68719476735) rfl rfl (any_of HT_.out (by kernel_rfl)) (fun _ _ _ h => h) HF rfl (by decide) (by intro wq; have e422 : b.tmps[422]?.getD undef = .bool true := HF.at rfl; go_simp) ?_
    clear HF b
    intro b HF
    refine done_ (done_of HT_.out (by kernel_rfl)) ?_
    have HM9 := Aside0.mk (HM3.out.step HS.out)
    clear HT_ HW_ HM3 HS HX
    show Code.wp _ _ _ _ _
    refine wp_region_lit ?_
    replace HF := HF.sub [(14, .int .i64 k), (5, .bool true), (3, .pointer (some ⟨w.heap.size + 1, 0, none⟩)), (2, .pointer (some ⟨w.heap.size, 0, none⟩))] (List.forall_mem_cons.2 ⟨rfl, (List.forall_mem_cons.2 ⟨rfl, (List.forall_mem_cons.2 ⟨rfl, (List.forall_mem_cons.2 ⟨rfl, by intro p_ hp_; cases hp_⟩)⟩)⟩)⟩)
    refine listF rfl HF rfl (by decide) (v := .int .i64 k) (by have e14 : b.tmps[14]?.getD undef = .int .i64 k := HF.at rfl; go_simp) ?_
    clear HF b
    intro b HF
    refine listF rfl HF rfl (by decide) (v := .int .i64 (k + 1)) (by have e386 : b.tmps[386]?.getD undef = .int .i64 k := HF.at rfl; go_simp) ?_
    clear HF b
    intro b HF
    refine listF rfl HF rfl (by decide) (v := .int .i64 (k + 1)) (by have e387 : b.tmps[387]?.getD undef = .int .i64 (k + 1) := HF.at rfl; go_simp) ?_
    clear HF b
    intro b HF
    exact ⟨(m.f9.length - (k + 1).toNat : Nat), by omega, k + 1, by omega, by omega, HF.sub _ (List.forall_mem_cons.2 ⟨rfl, (List.forall_mem_cons.2 ⟨rfl, (List.forall_mem_cons.2 ⟨rfl, (List.forall_mem_cons.2 ⟨rfl, by intro p_ hp_; cases hp_⟩)⟩)⟩)⟩), HM9.out⟩
  · have D0 := Aside0.mk (show decide (k < (m.f9.length : Int)) = false from decide_eq_false hlt)
    have XA := Aside0.mk (show wr.cell? ⟨w.heap.size, 9, none⟩ = some (.slice A m.f9.length a) from (HM.out.a.cell 9).trans HA.out)
    refine listF rfl HF rfl (by decide) (v := .int .i64 k) (by have e14 : b.tmps[14]?.getD undef = .int .i64 k := HF.at rfl; go_simp) ?_
    clear HF b
    intro b HF
    refine listF rfl HF rfl (by decide) (v := .pointer (some ⟨w.heap.size, 9, none⟩)) (by have e2 : b.tmps[2]?.getD undef = .pointer (some ⟨w.heap.size, 0, none⟩) := HF.at rfl; go_simp) ?_
    clear HF b
    intro b HF
    refine listF rfl HF rfl (by decide) (v := .slice A m.f9.length a) (by have e382 : b.tmps[382]?.getD undef = .pointer (some ⟨w.heap.size, 9, none⟩) := HF.at rfl; have c_ := XA.out; go_simp) ?_
    clear HF b
    intro b HF
    refine listF rfl HF rfl (by decide) (v := .int .i64 (m.f9.length : Int)) (by have e383 : b.tmps[383]?.getD undef = .slice A m.f9.length a := HF.at rfl; go_simp) ?_
    clear HF b
    intro b HF
    refine listF rfl HF rfl (by decide) (v := .bool false) (by have e381 : b.tmps[381]?.getD undef = .int .i64 k := HF.at rfl; have e384 : b.tmps[384]?.getD undef = .int .i64 (m.f9.length : Int) := HF.at rfl; have d0_ := D0.out; go_simp) ?_
    clear HF b
    intro b HF
    show Code.wp _ _ _ _ _
    refine wp_cond_false (HF.get rfl) ?_
    refine wp_exit ?_
    show K _ _
    exact HKK.out _ _ (HF.sub _ (List.forall_mem_cons.2 ⟨rfl, (List.forall_mem_cons.2 ⟨rfl, (List.forall_mem_cons.2 ⟨rfl, by intro p_ hp_; cases hp_⟩)⟩)⟩)) HM.out
def same.T43 : Bool × List (List Nat × List Nat) := (true, [([], []), ([0], [0]), ([1], [1]), ([2, 1], [1, 2]), ([1], [1]), ([3, 4, 1], [1, 3, 4]), ([5, 1], [1, 5]), ([6, 1], [1, 6]), ([1], [1]), ([8, 1], [1, 8]), ([1], [1]), ([9, 10, 1], [1, 9, 10]), ([11, 1], [1, 11]), ([12, 1], [1, 12]), ([7, 13, 1], [1, 7, 13]), ([1, 14], [1, 14]), ([15, 1], [15]), ([16], [16]), ([17, 16], [16, 17]), ([16], [16]), ([18, 19, 16], [16, 18, 19]), ([20, 16], [16, 20]), ([21, 16], [16, 21]), ([22, 16], [16, 22]), ([16], [16]), ([24, 16], [16, 24]), ([16], [16]), ([25, 26, 16], [16, 25, 26]), ([27, 16], [16, 27]), ([28, 16], [16, 28]), ([29, 16], [16, 29]), ([23, 30, 16], [16, 23, 30]), ([16, 31], [16, 31]), ([32, 16, 0, 1, 2, 3, 4, 5, 6, 7, 8, 9, 10, 11, 12, 13, 14, 15, 16, 17, 18, 19, 20, 21, 22, 23, 24, 25, 26, 27, 28, 29, 30, 31, 32], [0, 32])])
def same.B43 : List Nat := [0, 1, 3, 7, 3, 31, 63, 127, 3, 259, 3, 1795, 3843, 7939, 16383, 32767, 65535, 131071, 262143, 131071, 1048575, 2097151, 4194303, 8388607, 131071, 16908287, 131071, 117571583, 251789311, 520224767, 1057095679, 2147483647, 4294967295, 8589934591]
theorem same.tab43 : rtab .any (opsOf Try.f19 43) = same.T43 := by kernel_rfl
theorem same.bits43 : waitsOk same.T43.2 same.B43 = true := by kernel_rfl
set_option maxHeartbeats 4000000 in
set_option maxRecDepth 100000 in
theorem sameL10 {w : World} {m : S61} {ca cb : Array Value} {A C : Option Addr} {a c : Nat} (ga : k121.C w A m.f10.length m.f10) (gc : k121.C w C m.f10.length m.f10) (ha : ca[10]? = some (.slice A m.f10.length a)) (hc : cb[10]? = some (.slice C m.f10.length c))
    {K : Act → World → Prop} {R : Ending → World → Prop} {a1 : Act} {w1 : World} (hF : Fr 464 a1 [(15, .int .i64 0), (5, .bool true), (3, .pointer (some ⟨w.heap.size + 1, 0, none⟩)), (2, .pointer (some ⟨w.heap.size, 0, none⟩))]) (hm : Sm w w1 ca cb)
    (hK : ∀ a' w', Fr 464 a' [(5, .bool true), (3, .pointer (some ⟨w.heap.size + 1, 0, none⟩)), (2, .pointer (some ⟨w.heap.size, 0, none⟩))] → Sm w w' ca cb → K a' w') : (blockOf Try.f19 18).wp Try.prog (Exit.then K (bodyPost Try.prog Try.f19 R)) a1 w1 := by
  have GA := Aside0.mk ga; have GC := Aside0.mk gc; have HA := Aside0.mk ha; have HC := Aside0.mk hc; have HKK := Aside0.mk hK
  clear ga gc ha hc hK
  refine wp_block ?_
  refine wp_loop_ghost (fun q_ b_ w_ => ∃ k : Int, 0 ≤ k ∧ (q_ : Int) + k = m.f10.length ∧ Fr 464 b_ [(15, .int .i64 k), (5, .bool true), (3, .pointer (some ⟨w.heap.size + 1, 0, none⟩)), (2, .pointer (some ⟨w.heap.size, 0, none⟩))] ∧ Sm w w_ ca cb) m.f10.length ⟨0, Int.le_refl _, by omega, hF, hm⟩ ?_
  clear hF hm
  rintro q b wr ⟨k, hk0, hk1, HF, hm⟩
  have HM := Aside0.mk hm
  clear hm
  refine wp_seq ?_
  refine wp_seq ?_
  refine wp_region_lit ?_
  by_cases hlt : k < (m.f10.length : Int)
  · have D0 := Aside0.mk (show decide (k < (m.f10.length : Int)) = true from decide_eq_true hlt)
    have XA := Aside0.mk (show wr.cell? ⟨w.heap.size, 10, none⟩ = some (.slice A m.f10.length a) from (HM.out.a.cell 10).trans HA.out)
    have ew : IntKind.i64.wrap (k + 1) = k + 1 := by have := Kd.C_max GA.out; rw [IntKind.wrap_i64]; omega
    refine listF rfl HF rfl (by decide) (v := .int .i64 k) (by have e15 : b.tmps[15]?.getD undef = .int .i64 k := HF.at rfl; go_simp) ?_
    clear HF b
    intro b HF
    refine listF rfl HF rfl (by decide) (v := .pointer (some ⟨w.heap.size, 10, none⟩)) (by have e2 : b.tmps[2]?.getD undef = .pointer (some ⟨w.heap.size, 0, none⟩) := HF.at rfl; go_simp) ?_
    clear HF b
    intro b HF
    refine listF rfl HF rfl (by decide) (v := .slice A m.f10.length a) (by have e424 : b.tmps[424]?.getD undef = .pointer (some ⟨w.heap.size, 10, none⟩) := HF.at rfl; have c_ := XA.out; go_simp) ?_
    clear HF b
    intro b HF
    refine listF rfl HF rfl (by decide) (v := .int .i64 (m.f10.length : Int)) (by have e425 : b.tmps[425]?.getD undef = .slice A m.f10.length a := HF.at rfl; go_simp) ?_
    clear HF b
    intro b HF
    refine listF rfl HF rfl (by decide) (v := .bool true) (by have e423 : b.tmps[423]?.getD undef = .int .i64 k := HF.at rfl; have e426 : b.tmps[426]?.getD undef = .int .i64 (m.f10.length : Int) := HF.at rfl; have d0_ := D0.out; go_simp) ?_
    clear HF b
    intro b HF
    show Code.wp _ _ _ _ _
    refine wp_cond_true (HF.get rfl) ?_
    refine wp_skip ?_
    show Code.wp _ _ _ _ _
    refine wp_seq ?_
    refine wp_block ?_
    replace HF := HF.sub [(15, .int .i64 k), (5, .bool true), (3, .pointer (some ⟨w.heap.size + 1, 0, none⟩)), (2, .pointer (some ⟨w.heap.size, 0, none⟩))] (List.forall_mem_cons.2 ⟨rfl, (List.forall_mem_cons.2 ⟨rfl, (List.forall_mem_cons.2 ⟨rfl, (List.forall_mem_cons.2 ⟨rfl, by intro p_ hp_; cases hp_⟩)⟩)⟩)⟩)
    clear XA
    obtain ⟨adE, E1, e1, eA, eq0, eq1, lE1, gE1⟩ := at_T121 GA.out k hk0 hlt
    cases eA
    obtain ⟨adF, F1, f1, eA, fq0, fq1, lF1, gF1⟩ := at_T121 GC.out k hk0 hlt
    cases eA
    generalize rd_T121 m.f10 k = y at *
    have HlE1 := Aside0.mk lE1; have HgE1 := Aside0.mk gE1; clear lE1 gE1
    have HlF1 := Aside0.mk lF1; have HgF1 := Aside0.mk gF1; clear lF1 gF1
    obtain ⟨w3, hw3⟩ : ∃ w3, w3 = wr.drew := ⟨_, rfl⟩
    have HM3 := Aside0.mk (show Sm w w3 ca cb by rw [hw3]; exact HM.out.step (Below.refl _ wr).drew)
    refine start_ (n := 34) (S := fun w' => Below w3.heap.size w3 w') (ds := []) (bt 34 0) (by kernel_rfl) rfl (by kernel_rfl) (by rw [hw3]; exact Below.refl _ _) (fun hHeld => ?_)
    refine with_tabW same.tab43 same.bits43 (fun HT_ HW_ => ?_)
    clear hHeld
    rw [← hw3]
    clear hw3 HM
    have HS := Aside0.mk (Below.refl w3.heap.size w3)
    have HX := Aside0.mk (And.intro (show w3.cell? ⟨w.heap.size, 10, none⟩ = some (.slice (some adE) m.f10.length a) from (HM3.out.a.cell 10).trans HA.out) (show w3.cell? ⟨w.heap.size + 1, 10, none⟩ = some (.slice (some adF) m.f10.length c) from (HM3.out.b.cell 10).trans HC.out))
    have Heq0 := Aside0.mk ((HM3.out.low.cell (World.block_lt_of_cell? w _ eq0)).trans eq0); clear eq0
    have Heq1 := Aside0.mk ((HM3.out.low.cell (World.block_lt_of_cell? w _ eq1)).trans eq1); clear eq1
    have Hfq0 := Aside0.mk ((HM3.out.low.cell (World.block_lt_of_cell? w _ fq0)).trans fq0); clear fq0
    have Hfq1 := Aside0.mk ((HM3.out.low.cell (World.block_lt_of_cell? w _ fq1)).trans fq1); clear fq1
    have J0 : (0 : Int) ≤ k := hk0
    have J1 : k < (m.f10.length : Int) := hlt
    have d1_ : decide (0 ≤ k) = true := decide_eq_true hk0
    have d2_ : decide (k < (m.f10.length : Int)) = true := decide_eq_true hlt
    refine pureF (i := 0) (k := 430) (v := .bool true) (bt 34 1) rfl rfl (any_of HT_.out (by kernel_rfl)) (fun _ _ _ h => h) HF rfl (by decide) (by intro wq; have e5 : b.tmps[5]?.getD undef = .bool true := HF.at rfl; go_simp) ?_
    clear HF b
    intro b HF
    refine pureF (i := 1) (k := 431) (v := .bool true) (bt 34 3) rfl rfl (any_of HT_.out (by kernel_rfl)) (fun _ _ _ h => h) HF rfl (by decide) (by intro wq; have e430 : b.tmps[430]?.getD undef = .bool true := HF.at rfl; go_simp) ?_
    clear HF b
    intro b HF
    refine pureF (i := 2) (k := 432) (v := .pointer (some ⟨w.heap.size, 10, none⟩)) (bt 34 7) rfl rfl (any_of HT_.out (by kernel_rfl)) (fun _ _ _ h => h) HF rfl (by decide) (by intro wq; have e2 : b.tmps[2]?.getD undef = .pointer (some ⟨w.heap.size, 0, none⟩) := HF.at rfl; go_simp) ?_
    clear HF b
    intro b HF
    refine takeF (i := 3) (k := 433) (v := .slice (some adE) m.f10.length a) (bt 34 15) rfl rfl (take_ofW HT_.out HW_.out (by kernel_rfl)) (fun _ _ _ h => h) HF rfl (by decide) (by intro wq hq; have e432 : b.tmps[432]?.getD undef = .pointer (some ⟨w.heap.size, 10, none⟩) := HF.at rfl; have c_ := pw_cell_below hq HX.out.1; go_simp) HS.out ?_
    clear HF b
    intro b HF
    refine pureF (i := 4) (k := 434) (v := .int .i64 k) (bt 34 31) rfl rfl (any_of HT_.out (by kernel_rfl)) (fun _ _ _ h => h) HF rfl (by decide) (by intro wq; have e15 : b.tmps[15]?.getD undef = .int .i64 k := HF.at rfl; go_simp) ?_
    clear HF b
    intro b HF
    refine pureF (i := 5) (k := 435) (v := .pointer (some (adE.add (k.toNat * 2)))) (bt 34 63) rfl rfl (any_of HT_.out (by kernel_rfl)) (fun _ _ _ h => h) HF rfl (by decide) (by intro wq; have e433 : b.tmps[433]?.getD undef = .slice (some adE) m.f10.length a := HF.at rfl; have e434 : b.tmps[434]?.getD undef = .int .i64 k := HF.at rfl; go_simp) ?_
    clear HF b
    intro b HF
    refine pureF (i := 6) (k := 436) (v := .pointer (some (adE.add (k.toNat * 2)))) (bt 34 127) rfl rfl (any_of HT_.out (by kernel_rfl)) (fun _ _ _ h => h) HF rfl (by decide) (by intro wq; have e435 : b.tmps[435]?.getD undef = .pointer (some (adE.add (k.toNat * 2))) := HF.at rfl; go_simp) ?_
    clear HF b
    intro b HF
    refine takeF (i := 7) (k := 437) (v := .string y.f0) (bt 34 255) rfl rfl (take_ofW HT_.out HW_.out (by kernel_rfl)) (fun _ _ _ h => h) HF rfl (by decide) (by intro wq hq; have e436 : b.tmps[436]?.getD undef = .pointer (some (adE.add (k.toNat * 2))) := HF.at rfl; have c_0 := pw_cell_below hq Heq0.out; go_simp) HS.out ?_
    clear HF b
    intro b HF
    refine pureF (i := 8) (k := 438) (v := .pointer (some ⟨w.heap.size + 1, 10, none⟩)) (bt 34 511) rfl rfl (any_of HT_.out (by kernel_rfl)) (fun _ _ _ h => h) HF rfl (by decide) (by intro wq; have e3 : b.tmps[3]?.getD undef = .pointer (some ⟨w.heap.size + 1, 0, none⟩) := HF.at rfl; go_simp) ?_
    clear HF b
    intro b HF
    refine takeF (i := 9) (k := 439) (v := .slice (some adF) m.f10.length c) (bt 34 1023) rfl rfl (take_ofW HT_.out HW_.out (by kernel_rfl)) (fun _ _ _ h => h) HF rfl (by decide) (by intro wq hq; have e438 : b.tmps[438]?.getD undef = .pointer (some ⟨w.heap.size + 1, 10, none⟩) := HF.at rfl; have c_ := pw_cell_below hq HX.out.2; go_simp) HS.out ?_
    clear HF b
    intro b HF
    refine pureF (i := 10) (k := 440) (v := .int .i64 k) (bt 34 2047) rfl rfl (any_of HT_.out (by kernel_rfl)) (fun _ _ _ h => h) HF rfl (by decide) (by intro wq; have e15 : b.tmps[15]?.getD undef = .int .i64 k := HF.at rfl; go_simp) ?_
    clear HF b
    intro b HF
    refine pureF (i := 11) (k := 441) (v := .pointer (some (adF.add (k.toNat * 2)))) (bt 34 4095) rfl rfl (any_of HT_.out (by kernel_rfl)) (fun _ _ _ h => h) HF rfl (by decide) (by intro wq; have e439 : b.tmps[439]?.getD undef = .slice (some adF) m.f10.length c := HF.at rfl; have e440 : b.tmps[440]?.getD undef = .int .i64 k := HF.at rfl; go_simp) ?_
    clear HF b
    intro b HF
    refine pureF (i := 12) (k := 442) (v := .pointer (some (adF.add (k.toNat * 2)))) (bt 34 8191) rfl rfl (any_of HT_.out (by kernel_rfl)) (fun _ _ _ h => h) HF rfl (by decide) (by intro wq; have e441 : b.tmps[441]?.getD undef = .pointer (some (adF.add (k.toNat * 2))) := HF.at rfl; go_simp) ?_
    clear HF b
    intro b HF
    refine takeF (i := 13) (k := 443) (v := .string y.f0) (bt 34 16383) rfl rfl (take_ofW HT_.out HW_.out (by kernel_rfl)) (fun _ _ _ h => h) HF rfl (by decide) (by intro wq hq; have e442 : b.tmps[442]?.getD undef = .pointer (some (adF.add (k.toNat * 2))) := HF.at rfl; have c_0 := pw_cell_below hq Hfq0.out; go_simp) HS.out ?_
    clear HF b
    intro b HF
    refine pureF (i := 14) (k := 444) (v := .bool true) (bt 34 32767) rfl rfl (any_of HT_.out (by kernel_rfl)) (fun _ _ _ h => h) HF rfl (by decide) (by intro wq; have e437 : b.tmps[437]?.getD undef = .string y.f0 := HF.at rfl; have e443 : b.tmps[443]?.getD undef = .string y.f0 := HF.at rfl; go_simp) ?_
    clear HF b
    intro b HF
    refine pureF (i := 15) (k := 445) (v := .bool true) (bt 34 65535) rfl rfl (any_of HT_.out (by kernel_rfl)) (fun _ _ _ h => h) HF rfl (by decide) (by intro wq; have e431 : b.tmps[431]?.getD undef = .bool true := HF.at rfl; have e444 : b.tmps[444]?.getD undef = .bool true := HF.at rfl; go_simp) ?_
    clear HF b
    intro b HF
    refine pureF (i := 16) (k := 446) (v := .bool true) (bt 34 131071) rfl rfl (any_of HT_.out (by kernel_rfl)) (fun _ _ _ h => h) HF rfl (by decide) (by intro wq; have e445 : b.tmps[445]?.getD undef = .bool true := HF.at rfl; go_simp) ?_
    clear HF b
    intro b HF
    refine pureF (i := 17) (k := 447) (v := .pointer (some ⟨w.heap.size, 10, none⟩)) (bt 34 262143) rfl rfl (any_of HT_.out (by kernel_rfl)) (fun _ _ _ h => h) HF rfl (by decide) (by intro wq; have e2 : b.tmps[2]?.getD undef = .pointer (some ⟨w.heap.size, 0, none⟩) := HF.at rfl; go_simp) ?_
    clear HF b
    intro b HF
    refine takeF (i := 18) (k := 448) (v := .slice (some adE) m.f10.length a) (bt 34 524287) rfl rfl (take_ofW HT_.out HW_.out (by kernel_rfl)) (fun _ _ _ h => h) HF rfl (by decide) (by intro wq hq; have e447 : b.tmps[447]?.getD undef = .pointer (some ⟨w.heap.size, 10, none⟩) := HF.at rfl; have c_ := pw_cell_below hq HX.out.1; go_simp) HS.out ?_
    clear HF b
    intro b HF
    refine pureF (i := 19) (k := 449) (v := .int .i64 k) (bt 34 1048575) rfl rfl (any_of HT_.out (by kernel_rfl)) (fun _ _ _ h => h) HF rfl (by decide) (by intro wq; have e15 : b.tmps[15]?.getD undef = .int .i64 k := HF.at rfl; go_simp) ?_
    clear HF b
    intro b HF
    refine pureF (i := 20) (k := 450) (v := .pointer (some (adE.add (k.toNat * 2)))) (bt 34 2097151) rfl rfl (any_of HT_.out (by kernel_rfl)) (fun _ _ _ h => h) HF rfl (by decide) (by intro wq; have e448 : b.tmps[448]?.getD undef = .slice (some adE) m.f10.length a := HF.at rfl; have e449 : b.tmps[449]?.getD undef = .int .i64 k := HF.at rfl; go_simp) ?_
    clear HF b
    intro b HF
    refine pureF (i := 21) (k := 451) (v := .pointer (some ⟨(adE.add (k.toNat * 2)).block, (adE.add (k.toNat * 2)).off + 1, none⟩)) (bt 34 4194303) rfl rfl (any_of HT_.out (by kernel_rfl)) (fun _ _ _ h => h) HF rfl (by decide) (by intro wq; have e450 : b.tmps[450]?.getD undef = .pointer (some (adE.add (k.toNat * 2))) := HF.at rfl; go_simp) ?_
    clear HF b
    intro b HF
    refine takeF (i := 22) (k := 452) (v := .slice E1 y.f1.length e1) (bt 34 8388607) rfl rfl (take_ofW HT_.out HW_.out (by kernel_rfl)) (fun _ _ _ h => h) HF rfl (by decide) (by intro wq hq; have e451 : b.tmps[451]?.getD undef = .pointer (some ⟨(adE.add (k.toNat * 2)).block, (adE.add (k.toNat * 2)).off + 1, none⟩) := HF.at rfl; have c_1 := pw_cell_below hq Heq1.out; go_simp) HS.out ?_
    clear HF b
    intro b HF
    refine takeF (i := 23) (k := 453) (v := .string (strOfNums y.f1)) (bt 34 16777215) rfl rfl (take_ofW HT_.out HW_.out (by kernel_rfl)) (fun _ _ _ h => h) HF rfl (by decide) (by intro wq hq; have e452 : b.tmps[452]?.getD undef = .slice E1 y.f1.length e1 := HF.at rfl; have c_ : (convert 109 9 (.slice E1 y.f1.length e1)).run Try.prog wq = .ok (.string (strOfNums y.f1)) wq := Kd.C_string Try.underlying109 Try.underlying5 Try.underlying9 (Kd.C_below (Kd.C_below HgE1.out HM3.out.low) hq); go_simp) HS.out ?_
    clear HF b
    intro b HF
    refine pureF (i := 24) (k := 454) (v := .pointer (some ⟨w.heap.size + 1, 10, none⟩)) (bt 34 33554431) rfl rfl (any_of HT_.out (by kernel_rfl)) (fun _ _ _ h => h) HF rfl (by decide) (by intro wq; have e3 : b.tmps[3]?.getD undef = .pointer (some ⟨w.heap.size + 1, 0, none⟩) := HF.at rfl; go_simp) ?_
    clear HF b
    intro b HF
    refine takeF (i := 25) (k := 455) (v := .slice (some adF) m.f10.length c) (bt 34 67108863) rfl rfl (take_ofW HT_.out HW_.out (by kernel_rfl)) (fun _ _ _ h => h) HF rfl (by decide) (by intro wq hq; have e454 : b.tmps[454]?.getD undef = .pointer (some ⟨w.heap.size + 1, 10, none⟩) := HF.at rfl; have c_ := pw_cell_below hq HX.out.2; go_simp) HS.out ?_
    clear HF b
    intro b HF
    refine pureF (i := 26) (k := 456) (v := .int .i64 k) (bt 34 134217727) rfl rfl (any_of HT_.out (by kernel_rfl)) (fun _ _ _ h => h) HF rfl (by decide) (by intro wq; have e15 : b.tmps[15]?.getD undef = .int .i64 k := HF.at rfl; go_simp) ?_
    clear HF b
    intro b HF
    refine pureF (i := 27) (k := 457) (v := .pointer (some (adF.add (k.toNat * 2)))) (bt 34 268435455) rfl rfl (any_of HT_.out (by kernel_rfl)) (fun _ _ _ h => h) HF rfl (by decide) (by intro wq; have e455 : b.tmps[455]?.getD undef = .slice (some adF) m.f10.length c := HF.at rfl; have e456 : b.tmps[456]?.getD undef = .int .i64 k := HF.at rfl; go_simp) ?_
    clear HF b
    intro b HF
    refine pureF (i := 28) (k := 458) (v := .pointer (some ⟨(adF.add (k.toNat * 2)).block, (adF.add (k.toNat * 2)).off + 1, none⟩)) (bt 34 536870911) rfl rfl (any_of HT_.out (by kernel_rfl)) (fun _ _ _ h => h) HF rfl (by decide) (by intro wq; have e457 : b.tmps[457]?.getD undef = .pointer (some (adF.add (k.toNat * 2))) := HF.at rfl; go_simp) ?_
    clear HF b
    intro b HF
    refine takeF (i := 29) (k := 459) (v := .slice F1 y.f1.length f1) (bt 34 1073741823) rfl rfl (take_ofW HT_.out HW_.out (by kernel_rfl)) (fun _ _ _ h => h) HF rfl (by decide) (by intro wq hq; have e458 : b.tmps[458]?.getD undef = .pointer (some ⟨(adF.add (k.toNat * 2)).block, (adF.add (k.toNat * 2)).off + 1, none⟩) := HF.at rfl; have c_1 := pw_cell_below hq Hfq1.out; go_simp) HS.out ?_
    clear HF b
    intro b HF
    refine takeF (i := 30) (k := 460) (v := .string (strOfNums y.f1)) (bt 34 2147483647) rfl rfl (take_ofW HT_.out HW_.out (by kernel_rfl)) (fun _ _ _ h => h) HF rfl (by decide) (by intro wq hq; have e459 : b.tmps[459]?.getD undef = .slice F1 y.f1.length f1 := HF.at rfl; have c_ : (convert 109 9 (.slice F1 y.f1.length f1)).run Try.prog wq = .ok (.string (strOfNums y.f1)) wq := Kd.C_string Try.underlying109 Try.underlying5 Try.underlying9 (Kd.C_below (Kd.C_below HgF1.out HM3.out.low) hq); go_simp) HS.out ?_
    clear HF b
    intro b HF
    refine pureF (i := 31) (k := 461) (v := .bool true) (bt 34 4294967295) rfl rfl (any_of HT_.out (by kernel_rfl)) (fun _ _ _ h => h) HF rfl (by decide) (by intro wq; have e453 : b.tmps[453]?.getD undef = .string (strOfNums y.f1) := HF.at rfl; have e460 : b.tmps[460]?.getD undef = .string (strOfNums y.f1) := HF.at rfl; go_simp) ?_
    clear HF b
    intro b HF
    refine pureF (i := 32) (k := 462) (v := .bool true) (bt 34 8589934591) rfl rfl (any_of HT_.out (by kernel_rfl)) (fun _ _ _ h => h) HF rfl (by decide) (by intro wq; have e446 : b.tmps[446]?.getD undef = .bool true := HF.at rfl; have e461 : b.tmps[461]?.getD undef = .bool true := HF.at rfl; go_simp) ?_
    clear HF b
    intro b HF
    refine pureF (i := 33) (k := 5) (v := .bool true) (bt 34 17179869183) rfl rfl (any_of HT_.out (by kernel_rfl)) (fun _ _ _ h => h) HF rfl (by decide) (by intro wq; have e462 : b.tmps[462]?.getD undef = .bool true := HF.at rfl; go_simp) ?_
    clear HF b
    intro b HF
    refine done_ (done_of HT_.out (by kernel_rfl)) ?_
    have HM9 := Aside0.mk (HM3.out.step HS.out)
    clear HT_ HW_ HM3 HS HX
    show Code.wp _ _ _ _ _
    refine wp_region_lit ?_
    replace HF := HF.sub [(15, .int .i64 k), (5, .bool true), (3, .pointer (some ⟨w.heap.size + 1, 0, none⟩)), (2, .pointer (some ⟨w.heap.size, 0, none⟩))] (List.forall_mem_cons.2 ⟨rfl, (List.forall_mem_cons.2 ⟨rfl, (List.forall_mem_cons.2 ⟨rfl, (List.forall_mem_cons.2 ⟨rfl, by intro p_ hp_; cases hp_⟩)⟩)⟩)⟩)
    refine listF rfl HF rfl (by decide) (v := .int .i64 k) (by have e15 : b.tmps[15]?.getD undef = .int .i64 k := HF.at rfl; go_simp) ?_
    clear HF b
    intro b HF
    refine listF rfl HF rfl (by decide) (v := .int .i64 (k + 1)) (by have e428 : b.tmps[428]?.getD undef = .int .i64 k := HF.at rfl; go_simp) ?_
    clear HF b
    intro b HF
    refine listF rfl HF rfl (by decide) (v := .int .i64 (k + 1)) (by have e429 : b.tmps[429]?.getD undef = .int .i64 (k + 1) := HF.at rfl; go_simp) ?_
    clear HF b
    intro b HF
    exact ⟨(m.f10.length - (k + 1).toNat : Nat), by omega, k + 1, by omega, by omega, HF.sub _ (List.forall_mem_cons.2 ⟨rfl, (List.forall_mem_cons.2 ⟨rfl, (List.forall_mem_cons.2 ⟨rfl, (List.forall_mem_cons.2 ⟨rfl, by intro p_ hp_; cases hp_⟩)⟩)⟩)⟩), HM9.out⟩
  · have D0 := Aside0.mk (show decide (k < (m.f10.length : Int)) = false from decide_eq_false hlt)
    have XA := Aside0.mk (show wr.cell? ⟨w.heap.size, 10, none⟩ = some (.slice A m.f10.length a) from (HM.out.a.cell 10).trans HA.out)
    refine listF rfl HF rfl (by decide) (v := .int .i64 k) (by have e15 : b.tmps[15]?.getD undef = .int .i64 k := HF.at rfl; go_simp) ?_
    clear HF b
    intro b HF
    refine listF rfl HF rfl (by decide) (v := .pointer (some ⟨w.heap.size, 10, none⟩)) (by have e2 : b.tmps[2]?.getD undef = .pointer (some ⟨w.heap.size, 0, none⟩) := HF.at rfl; go_simp) ?_
    clear HF b
    intro b HF
    refine listF rfl HF rfl (by decide) (v := .slice A m.f10.length a) (by have e424 : b.tmps[424]?.getD undef = .pointer (some ⟨w.heap.size, 10, none⟩) := HF.at rfl; have c_ := XA.out; go_simp) ?_
    clear HF b
    intro b HF
    refine listF rfl HF rfl (by decide) (v := .int .i64 (m.f10.length : Int)) (by have e425 : b.tmps[425]?.getD undef = .slice A m.f10.length a := HF.at rfl; go_simp) ?_
    clear HF b
    intro b HF
    refine listF rfl HF rfl (by decide) (v := .bool false) (by have e423 : b.tmps[423]?.getD undef = .int .i64 k := HF.at rfl; have e426 : b.tmps[426]?.getD undef = .int .i64 (m.f10.length : Int) := HF.at rfl; have d0_ := D0.out; go_simp) ?_
    clear HF b
    intro b HF
    show Code.wp _ _ _ _ _
    refine wp_cond_false (HF.get rfl) ?_
    refine wp_exit ?_
    show K _ _
    exact HKK.out _ _ (HF.sub _ (List.forall_mem_cons.2 ⟨rfl, (List.forall_mem_cons.2 ⟨rfl, (List.forall_mem_cons.2 ⟨rfl, by intro p_ hp_; cases hp_⟩)⟩)⟩)) HM.out
end Go.Proofs.Ytbelijoggbblgaa.Ex
