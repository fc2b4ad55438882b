/- The document's Same of a module and itself, loop by loop: each leaves its answer true. Printed by the program mkex8.py. -/
import Derived.Test.YtbelijoggbblgaaFw0
namespace Go.Proofs.Ytbelijoggbblgaa.Ex
open Go.RowKit Go.Proofs.YtbelijoggbblgaaW.PrintWords Go.Proofs.YtbelijoggbblgaaW.PrintLast Go.Proofs.Ytbelijoggbblgaa.RStoreExports Go.Proofs.Ytbelijoggbblgaa.Man
set_option linter.unusedVariables false
set_option linter.unusedSimpArgs false
theorem single_calls {w : World} (x : S104) {A5 : Option Addr} {c5 : Nat} (l5 : x.f5.length ≤ c5) (g5 : (Kd.int .i64).C w A5 x.f5.length x.f5) {A6 : Option Addr} {c6 : Nat} (l6 : x.f6.length ≤ c6) (g6 : k104.C w A6 x.f6.length x.f6) {A7 : Option Addr} {c7 : Nat} (l7 : x.f7.length ≤ c7) (g7 : k104.C w A7 x.f7.length x.f7) :
    Calls Try.prog 27 #[.agg #[.int .i64 x.f0, .int .i64 x.f1, .int .i64 x.f2, .int .u64 x.f3, .int .i64 x.f4, .slice A5 x.f5.length c5, .slice A6 x.f6.length c6, .slice A7 x.f7.length c7, .bool x.f8]] w fun e w' => ∃ g, e = .returned (.slice (some ⟨g, 0, none⟩) 1 1) ∧ k104.C w' (some ⟨g, 0, none⟩) 1 [x] ∧ Below w.heap.size w w' := by
  have G5 := Aside0.mk g5; have G6 := Aside0.mk g6; have G7 := Aside0.mk g7; have L5 := Aside0.mk l5; have L6 := Aside0.mk l6; have L7 := Aside0.mk l7
  clear g5 g6 g7 l5 l6 l7
  go_enter Try.func27, Try.ntmps27
  go_wp2
  go_ret
  have hb := below_alloc (below_alloc (Below.refl w.heap.size w) (.cells #[.int .i64 x.f0, .int .i64 x.f1, .int .i64 x.f2, .int .u64 x.f3, .int .i64 x.f4, .slice A5 x.f5.length c5, .slice A6 x.f6.length c6, .slice A7 x.f7.length c7, .bool x.f8] 104)) (.cells #[.int .i64 x.f0, .int .i64 x.f1, .int .i64 x.f2, .int .u64 x.f3, .int .i64 x.f4, .slice A5 x.f5.length c5, .slice A6 x.f6.length c6, .slice A7 x.f7.length c7, .bool x.f8] 104)
  exact ⟨_, rfl, C_one x L5.out (Kd.C_below G5.out hb) L6.out (Kd.C_below G6.out hb) L7.out (Kd.C_below G7.out hb) (St.Row.made _ _ _ (by simp)), hb⟩
/-- The boxes of both arguments as they were. -/
structure Sm (w wc : World) (ca cb : Array Value) : Prop where
  a : Row wc w.heap.size 61 ca
  b : Row wc (w.heap.size + 1) 61 cb
  low : Below w.heap.size w wc
theorem Sm.step {w wc w' : World} {ca cb : Array Value} (h : Sm w wc ca cb) (hb : Below wc.heap.size wc w') : Sm w w' ca cb := ⟨h.a.below hb h.a.lt, h.b.below hb h.b.lt, h.low.trans (St.below_mono hb h.low.size)⟩
def same.T7 : Bool × List (List Nat × List Nat) := (true, [([], []), ([0], [0]), ([1], [1]), ([2, 1], [1, 2]), ([1], [1]), ([3, 4, 1], [1, 3, 4]), ([5, 1], [1, 5]), ([6, 1], [1, 6]), ([1], [1]), ([8, 1], [1, 8]), ([1], [1]), ([9, 10, 1], [1, 9, 10]), ([11, 1], [1, 11]), ([12, 1], [1, 12]), ([7, 13, 1, 1], [1, 7, 13]), ([1, 14], [1, 14]), ([15, 14], [15]), ([16], [16]), ([17, 16], [16, 17]), ([16], [16]), ([18, 19, 16], [16, 18, 19]), ([20, 16], [16, 20]), ([21, 16], [16, 21]), ([16], [16]), ([23, 16], [16, 23]), ([16], [16]), ([24, 25, 16], [16, 24, 25]), ([26, 16], [16, 26]), ([27, 16], [16, 27]), ([22, 28, 16, 16], [16, 22, 28]), ([16, 29], [16, 29]), ([30, 29, 0, 1, 2, 3, 4, 5, 6, 7, 8, 9, 10, 11, 12, 13, 14, 15, 16, 17, 18, 19, 20, 21, 22, 23, 24, 25, 26, 27, 28, 29, 30], [0, 30])])
def same.B7 : List Nat := [0, 1, 3, 7, 3, 31, 63, 127, 3, 259, 3, 1795, 3843, 7939, 16383, 32767, 65535, 131071, 262143, 131071, 1048575, 2097151, 4194303, 131071, 8519679, 131071, 58851327, 125960191, 260177919, 536870911, 1073741823, 2147483647]
theorem same.tab7 : rtab .any (opsOf Try.f19 7) = same.T7 := by kernel_rfl
theorem same.bits7 : waitsOk same.T7.2 same.B7 = true := by kernel_rfl
set_option maxHeartbeats 4000000 in
set_option maxRecDepth 100000 in
theorem sameL0 {w : World} {m : S61} {ca cb : Array Value} {A C : Option Addr} {a c : Nat} (ga : k25.C w A m.f0.length m.f0) (gc : k25.C w C m.f0.length m.f0) (ha : ca[0]? = some (.slice A m.f0.length a)) (hc : cb[0]? = some (.slice C m.f0.length c))
    {K : Act → World → Prop} {R : Ending → World → Prop} {a1 : Act} {w1 : World} (hF : Fr 464 a1 [(6, .int .i64 0), (5, .bool true), (3, .pointer (some ⟨w.heap.size + 1, 0, none⟩)), (2, .pointer (some ⟨w.heap.size, 0, none⟩))]) (hm : Sm w w1 ca cb)
    (hK : ∀ a' w', Fr 464 a' [(5, .bool true), (3, .pointer (some ⟨w.heap.size + 1, 0, none⟩)), (2, .pointer (some ⟨w.heap.size, 0, none⟩))] → Sm w w' ca cb → K a' w') : (blockOf Try.f19 0).wp Try.prog (Exit.then K (bodyPost Try.prog Try.f19 R)) a1 w1 := by
  have GA := Aside0.mk ga; have GC := Aside0.mk gc; have HA := Aside0.mk ha; have HC := Aside0.mk hc; have HKK := Aside0.mk hK
  clear ga gc ha hc hK
  refine wp_block ?_
  refine wp_loop_ghost (fun q_ b_ w_ => ∃ k : Int, 0 ≤ k ∧ (q_ : Int) + k = m.f0.length ∧ Fr 464 b_ [(6, .int .i64 k), (5, .bool true), (3, .pointer (some ⟨w.heap.size + 1, 0, none⟩)), (2, .pointer (some ⟨w.heap.size, 0, none⟩))] ∧ Sm w w_ ca cb) m.f0.length ⟨0, Int.le_refl _, by omega, hF, hm⟩ ?_
  clear hF hm
  rintro q b wr ⟨k, hk0, hk1, HF, hm⟩
  have HM := Aside0.mk hm
  clear hm
  refine wp_seq ?_
  refine wp_seq ?_
  refine wp_region_lit ?_
  by_cases hlt : k < (m.f0.length : Int)
  · have D0 := Aside0.mk (show decide (k < (m.f0.length : Int)) = true from decide_eq_true hlt)
    have XA := Aside0.mk (show wr.cell? ⟨w.heap.size, 0, none⟩ = some (.slice A m.f0.length a) from (HM.out.a.cell 0).trans HA.out)
    have ew : IntKind.i64.wrap (k + 1) = k + 1 := by have := Kd.C_max GA.out; rw [IntKind.wrap_i64]; omega
    refine listF rfl HF rfl (by decide) (v := .int .i64 k) (by have e6 : b.tmps[6]?.getD undef = .int .i64 k := HF.at rfl; go_simp) ?_
    clear HF b
    intro b HF
    refine listF rfl HF rfl (by decide) (v := .pointer (some ⟨w.heap.size, 0, none⟩)) (by have e2 : b.tmps[2]?.getD undef = .pointer (some ⟨w.heap.size, 0, none⟩) := HF.at rfl; go_simp) ?_
    clear HF b
    intro b HF
    refine listF rfl HF rfl (by decide) (v := .slice A m.f0.length a) (by have e112 : b.tmps[112]?.getD undef = .pointer (some ⟨w.heap.size, 0, none⟩) := HF.at rfl; have c_ := XA.out; go_simp) ?_
    clear HF b
    intro b HF
    refine listF rfl HF rfl (by decide) (v := .int .i64 (m.f0.length : Int)) (by have e113 : b.tmps[113]?.getD undef = .slice A m.f0.length a := HF.at rfl; go_simp) ?_
    clear HF b
    intro b HF
    refine listF rfl HF rfl (by decide) (v := .bool true) (by have e111 : b.tmps[111]?.getD undef = .int .i64 k := HF.at rfl; have e114 : b.tmps[114]?.getD undef = .int .i64 (m.f0.length : Int) := HF.at rfl; have d0_ := D0.out; go_simp) ?_
    clear HF b
    intro b HF
    show Code.wp _ _ _ _ _
    refine wp_cond_true (HF.get rfl) ?_
    refine wp_skip ?_
    show Code.wp _ _ _ _ _
    refine wp_seq ?_
    refine wp_block ?_
    replace HF := HF.sub [(6, .int .i64 k), (5, .bool true), (3, .pointer (some ⟨w.heap.size + 1, 0, none⟩)), (2, .pointer (some ⟨w.heap.size, 0, none⟩))] (List.forall_mem_cons.2 ⟨rfl, (List.forall_mem_cons.2 ⟨rfl, (List.forall_mem_cons.2 ⟨rfl, (List.forall_mem_cons.2 ⟨rfl, by intro p_ hp_; cases hp_⟩)⟩)⟩)⟩)
    clear XA
    obtain ⟨adE, E0, e0, E1, e1, eA, eq0, eq1, lE0, gE0, lE1, gE1⟩ := at_T25 GA.out k hk0 hlt
    cases eA
    obtain ⟨adF, F0, f0, F1, f1, eA, fq0, fq1, lF0, gF0, lF1, gF1⟩ := at_T25 GC.out k hk0 hlt
    cases eA
    generalize rd_T25 m.f0 k = y at *
    have HlE0 := Aside0.mk lE0; have HgE0 := Aside0.mk gE0; clear lE0 gE0
    have HlE1 := Aside0.mk lE1; have HgE1 := Aside0.mk gE1; clear lE1 gE1
    have HlF0 := Aside0.mk lF0; have HgF0 := Aside0.mk gF0; clear lF0 gF0
    have HlF1 := Aside0.mk lF1; have HgF1 := Aside0.mk gF1; clear lF1 gF1
    obtain ⟨w3, hw3⟩ : ∃ w3, w3 = wr.drew := ⟨_, rfl⟩
    have HM3 := Aside0.mk (show Sm w w3 ca cb by rw [hw3]; exact HM.out.step (Below.refl _ wr).drew)
    refine start_ (n := 32) (S := fun w' => Below w3.heap.size w3 w') (ds := []) (bt 32 0) (by kernel_rfl) rfl (by kernel_rfl) (by rw [hw3]; exact Below.refl _ _) (fun hHeld => ?_)
    refine with_tabW same.tab7 same.bits7 (fun HT_ HW_ => ?_)
    clear hHeld
    rw [← hw3]
    clear hw3 HM
    have HS := Aside0.mk (Below.refl w3.heap.size w3)
    have HX := Aside0.mk (And.intro (show w3.cell? ⟨w.heap.size, 0, none⟩ = some (.slice (some adE) m.f0.length a) from (HM3.out.a.cell 0).trans HA.out) (show w3.cell? ⟨w.heap.size + 1, 0, none⟩ = some (.slice (some adF) m.f0.length c) from (HM3.out.b.cell 0).trans HC.out))
    have Heq0 := Aside0.mk ((HM3.out.low.cell (World.block_lt_of_cell? w _ eq0)).trans eq0); clear eq0
    have Heq1 := Aside0.mk ((HM3.out.low.cell (World.block_lt_of_cell? w _ eq1)).trans eq1); clear eq1
    have Hfq0 := Aside0.mk ((HM3.out.low.cell (World.block_lt_of_cell? w _ fq0)).trans fq0); clear fq0
    have Hfq1 := Aside0.mk ((HM3.out.low.cell (World.block_lt_of_cell? w _ fq1)).trans fq1); clear fq1
    have J0 : (0 : Int) ≤ k := hk0
    have J1 : k < (m.f0.length : Int) := hlt
    have d1_ : decide (0 ≤ k) = true := decide_eq_true hk0
    have d2_ : decide (k < (m.f0.length : Int)) = true := decide_eq_true hlt
    refine pureF (i := 0) (k := 118) (v := .bool true) (bt 32 1) rfl rfl (any_of HT_.out (by kernel_rfl)) (fun _ _ _ h => h) HF rfl (by decide) (by intro wq; have e5 : b.tmps[5]?.getD undef = .bool true := HF.at rfl; go_simp) ?_
    clear HF b
    intro b HF
    refine pureF (i := 1) (k := 119) (v := .bool true) (bt 32 3) rfl rfl (any_of HT_.out (by kernel_rfl)) (fun _ _ _ h => h) HF rfl (by decide) (by intro wq; have e118 : b.tmps[118]?.getD undef = .bool true := HF.at rfl; go_simp) ?_
    clear HF b
    intro b HF
    refine pureF (i := 2) (k := 120) (v := .pointer (some ⟨w.heap.size, 0, none⟩)) (bt 32 7) rfl rfl (any_of HT_.out (by kernel_rfl)) (fun _ _ _ h => h) HF rfl (by decide) (by intro wq; have e2 : b.tmps[2]?.getD undef = .pointer (some ⟨w.heap.size, 0, none⟩) := HF.at rfl; go_simp) ?_
    clear HF b
    intro b HF
    refine takeF (i := 3) (k := 121) (v := .slice (some adE) m.f0.length a) (bt 32 15) rfl rfl (take_ofW HT_.out HW_.out (by kernel_rfl)) (fun _ _ _ h => h) HF rfl (by decide) (by intro wq hq; have e120 : b.tmps[120]?.getD undef = .pointer (some ⟨w.heap.size, 0, none⟩) := HF.at rfl; have c_ := pw_cell_below hq HX.out.1; go_simp) HS.out ?_
    clear HF b
    intro b HF
    refine pureF (i := 4) (k := 122) (v := .int .i64 k) (bt 32 31) rfl rfl (any_of HT_.out (by kernel_rfl)) (fun _ _ _ h => h) HF rfl (by decide) (by intro wq; have e6 : b.tmps[6]?.getD undef = .int .i64 k := HF.at rfl; go_simp) ?_
    clear HF b
    intro b HF
    refine pureF (i := 5) (k := 123) (v := .pointer (some (adE.add (k.toNat * 2)))) (bt 32 63) rfl rfl (any_of HT_.out (by kernel_rfl)) (fun _ _ _ h => h) HF rfl (by decide) (by intro wq; have e121 : b.tmps[121]?.getD undef = .slice (some adE) m.f0.length a := HF.at rfl; have e122 : b.tmps[122]?.getD undef = .int .i64 k := HF.at rfl; go_simp) ?_
    clear HF b
    intro b HF
    refine pureF (i := 6) (k := 124) (v := .pointer (some (adE.add (k.toNat * 2)))) (bt 32 127) rfl rfl (any_of HT_.out (by kernel_rfl)) (fun _ _ _ h => h) HF rfl (by decide) (by intro wq; have e123 : b.tmps[123]?.getD undef = .pointer (some (adE.add (k.toNat * 2))) := HF.at rfl; go_simp) ?_
    clear HF b
    intro b HF
    refine takeF (i := 7) (k := 125) (v := .slice E0 y.f0.length e0) (bt 32 255) rfl rfl (take_ofW HT_.out HW_.out (by kernel_rfl)) (fun _ _ _ h => h) HF rfl (by decide) (by intro wq hq; have e124 : b.tmps[124]?.getD undef = .pointer (some (adE.add (k.toNat * 2))) := HF.at rfl; have c_0 := pw_cell_below hq Heq0.out; go_simp) HS.out ?_
    clear HF b
    intro b HF
    refine pureF (i := 8) (k := 126) (v := .pointer (some ⟨w.heap.size + 1, 0, none⟩)) (bt 32 511) rfl rfl (any_of HT_.out (by kernel_rfl)) (fun _ _ _ h => h) HF rfl (by decide) (by intro wq; have e3 : b.tmps[3]?.getD undef = .pointer (some ⟨w.heap.size + 1, 0, none⟩) := HF.at rfl; go_simp) ?_
    clear HF b
    intro b HF
    refine takeF (i := 9) (k := 127) (v := .slice (some adF) m.f0.length c) (bt 32 1023) rfl rfl (take_ofW HT_.out HW_.out (by kernel_rfl)) (fun _ _ _ h => h) HF rfl (by decide) (by intro wq hq; have e126 : b.tmps[126]?.getD undef = .pointer (some ⟨w.heap.size + 1, 0, none⟩) := HF.at rfl; have c_ := pw_cell_below hq HX.out.2; go_simp) HS.out ?_
    clear HF b
    intro b HF
    refine pureF (i := 10) (k := 128) (v := .int .i64 k) (bt 32 2047) rfl rfl (any_of HT_.out (by kernel_rfl)) (fun _ _ _ h => h) HF rfl (by decide) (by intro wq; have e6 : b.tmps[6]?.getD undef = .int .i64 k := HF.at rfl; go_simp) ?_
    clear HF b
    intro b HF
    refine pureF (i := 11) (k := 129) (v := .pointer (some (adF.add (k.toNat * 2)))) (bt 32 4095) rfl rfl (any_of HT_.out (by kernel_rfl)) (fun _ _ _ h => h) HF rfl (by decide) (by intro wq; have e127 : b.tmps[127]?.getD undef = .slice (some adF) m.f0.length c := HF.at rfl; have e128 : b.tmps[128]?.getD undef = .int .i64 k := HF.at rfl; go_simp) ?_
    clear HF b
    intro b HF
    refine pureF (i := 12) (k := 130) (v := .pointer (some (adF.add (k.toNat * 2)))) (bt 32 8191) rfl rfl (any_of HT_.out (by kernel_rfl)) (fun _ _ _ h => h) HF rfl (by decide) (by intro wq; have e129 : b.tmps[129]?.getD undef = .pointer (some (adF.add (k.toNat * 2))) := HF.at rfl; go_simp) ?_
    clear HF b
    intro b HF
    refine takeF (i := 13) (k := 131) (v := .slice F0 y.f0.length f0) (bt 32 16383) rfl rfl (take_ofW HT_.out HW_.out (by kernel_rfl)) (fun _ _ _ h => h) HF rfl (by decide) (by intro wq hq; have e130 : b.tmps[130]?.getD undef = .pointer (some (adF.add (k.toNat * 2))) := HF.at rfl; have c_0 := pw_cell_below hq Hfq0.out; go_simp) HS.out ?_
    clear HF b
    intro b HF
    refine oneF (i := 14) (k := 132) (bt 32 32767) rfl rfl (one_of HT_.out (by kernel_rfl)) HF rfl (by decide) (fun K_ hK_ => ?_)
    have e125 : b.tmps[125]?.getD undef = .slice E0 y.f0.length e0 := HF.at rfl
    have e131 : b.tmps[131]?.getD undef = .slice F0 y.f0.length f0 := HF.at rfl
    go_simp
    clear e125 e131
    refine (ints_self _ (Kd.C_below (Kd.C_below HgE0.out HM3.out.low) HS.out) HlE0.out (Kd.C_below (Kd.C_below HgF0.out HM3.out.low) HS.out) HlF0.out).mono ?_
    rintro e _ ⟨rfl, ⟨nd, rfl⟩⟩
    have HSn := Aside0.mk (pw_below_drewN HS.out nd)
    refine hK_.out _ _ HSn.out ?_
    clear hK_ K_ HS
    have HS := HSn
    clear HSn HF b
    intro b HF
    refine pureF (i := 15) (k := 133) (v := .bool true) (bt 32 65535) rfl rfl (any_of HT_.out (by kernel_rfl)) (fun _ _ _ h => h) HF rfl (by decide) (by intro wq; have e119 : b.tmps[119]?.getD undef = .bool true := HF.at rfl; have e132 : b.tmps[132]?.getD undef = .bool true := HF.at rfl; go_simp) ?_
    clear HF b
    intro b HF
    refine pureF (i := 16) (k := 134) (v := .bool true) (bt 32 131071) rfl rfl (any_of HT_.out (by kernel_rfl)) (fun _ _ _ h => h) HF rfl (by decide) (by intro wq; have e133 : b.tmps[133]?.getD undef = .bool true := HF.at rfl; go_simp) ?_
    clear HF b
    intro b HF
    refine pureF (i := 17) (k := 135) (v := .pointer (some ⟨w.heap.size, 0, none⟩)) (bt 32 262143) rfl rfl (any_of HT_.out (by kernel_rfl)) (fun _ _ _ h => h) HF rfl (by decide) (by intro wq; have e2 : b.tmps[2]?.getD undef = .pointer (some ⟨w.heap.size, 0, none⟩) := HF.at rfl; go_simp) ?_
    clear HF b
    intro b HF
    refine takeF (i := 18) (k := 136) (v := .slice (some adE) m.f0.length a) (bt 32 524287) rfl rfl (take_ofW HT_.out HW_.out (by kernel_rfl)) (fun _ _ _ h => h) HF rfl (by decide) (by intro wq hq; have e135 : b.tmps[135]?.getD undef = .pointer (some ⟨w.heap.size, 0, none⟩) := HF.at rfl; have c_ := pw_cell_below hq HX.out.1; go_simp) HS.out ?_
    clear HF b
    intro b HF
    refine pureF (i := 19) (k := 137) (v := .int .i64 k) (bt 32 1048575) rfl rfl (any_of HT_.out (by kernel_rfl)) (fun _ _ _ h => h) HF rfl (by decide) (by intro wq; have e6 : b.tmps[6]?.getD undef = .int .i64 k := HF.at rfl; go_simp) ?_
    clear HF b
    intro b HF
    refine pureF (i := 20) (k := 138) (v := .pointer (some (adE.add (k.toNat * 2)))) (bt 32 2097151) rfl rfl (any_of HT_.out (by kernel_rfl)) (fun _ _ _ h => h) HF rfl (by decide) (by intro wq; have e136 : b.tmps[136]?.getD undef = .slice (some adE) m.f0.length a := HF.at rfl; have e137 : b.tmps[137]?.getD undef = .int .i64 k := HF.at rfl; go_simp) ?_
    clear HF b
    intro b HF
    refine pureF (i := 21) (k := 139) (v := .pointer (some ⟨(adE.add (k.toNat * 2)).block, (adE.add (k.toNat * 2)).off + 1, none⟩)) (bt 32 4194303) rfl rfl (any_of HT_.out (by kernel_rfl)) (fun _ _ _ h => h) HF rfl (by decide) (by intro wq; have e138 : b.tmps[138]?.getD undef = .pointer (some (adE.add (k.toNat * 2))) := HF.at rfl; go_simp) ?_
    clear HF b
    intro b HF
    refine takeF (i := 22) (k := 140) (v := .slice E1 y.f1.length e1) (bt 32 8388607) rfl rfl (take_ofW HT_.out HW_.out (by kernel_rfl)) (fun _ _ _ h => h) HF rfl (by decide) (by intro wq hq; have e139 : b.tmps[139]?.getD undef = .pointer (some ⟨(adE.add (k.toNat * 2)).block, (adE.add (k.toNat * 2)).off + 1, none⟩) := HF.at rfl; have c_1 := pw_cell_below hq Heq1.out; go_simp) HS.out ?_
    clear HF b
    intro b HF
    refine pureF (i := 23) (k := 141) (v := .pointer (some ⟨w.heap.size + 1, 0, none⟩)) (bt 32 16777215) rfl rfl (any_of HT_.out (by kernel_rfl)) (fun _ _ _ h => h) HF rfl (by decide) (by intro wq; have e3 : b.tmps[3]?.getD undef = .pointer (some ⟨w.heap.size + 1, 0, none⟩) := HF.at rfl; go_simp) ?_
    clear HF b
    intro b HF
    refine takeF (i := 24) (k := 142) (v := .slice (some adF) m.f0.length c) (bt 32 33554431) rfl rfl (take_ofW HT_.out HW_.out (by kernel_rfl)) (fun _ _ _ h => h) HF rfl (by decide) (by intro wq hq; have e141 : b.tmps[141]?.getD undef = .pointer (some ⟨w.heap.size + 1, 0, none⟩) := HF.at rfl; have c_ := pw_cell_below hq HX.out.2; go_simp) HS.out ?_
    clear HF b
    intro b HF
    refine pureF (i := 25) (k := 143) (v := .int .i64 k) (bt 32 67108863) rfl rfl (any_of HT_.out (by kernel_rfl)) (fun _ _ _ h => h) HF rfl (by decide) (by intro wq; have e6 : b.tmps[6]?.getD undef = .int .i64 k := HF.at rfl; go_simp) ?_
    clear HF b
    intro b HF
    refine pureF (i := 26) (k := 144) (v := .pointer (some (adF.add (k.toNat * 2)))) (bt 32 134217727) rfl rfl (any_of HT_.out (by kernel_rfl)) (fun _ _ _ h => h) HF rfl (by decide) (by intro wq; have e142 : b.tmps[142]?.getD undef = .slice (some adF) m.f0.length c := HF.at rfl; have e143 : b.tmps[143]?.getD undef = .int .i64 k := HF.at rfl; go_simp) ?_
    clear HF b
    intro b HF
    refine pureF (i := 27) (k := 145) (v := .pointer (some ⟨(adF.add (k.toNat * 2)).block, (adF.add (k.toNat * 2)).off + 1, none⟩)) (bt 32 268435455) rfl rfl (any_of HT_.out (by kernel_rfl)) (fun _ _ _ h => h) HF rfl (by decide) (by intro wq; have e144 : b.tmps[144]?.getD undef = .pointer (some (adF.add (k.toNat * 2))) := HF.at rfl; go_simp) ?_
    clear HF b
    intro b HF
    refine takeF (i := 28) (k := 146) (v := .slice F1 y.f1.length f1) (bt 32 536870911) rfl rfl (take_ofW HT_.out HW_.out (by kernel_rfl)) (fun _ _ _ h => h) HF rfl (by decide) (by intro wq hq; have e145 : b.tmps[145]?.getD undef = .pointer (some ⟨(adF.add (k.toNat * 2)).block, (adF.add (k.toNat * 2)).off + 1, none⟩) := HF.at rfl; have c_1 := pw_cell_below hq Hfq1.out; go_simp) HS.out ?_
    clear HF b
    intro b HF
    refine oneF (i := 29) (k := 147) (bt 32 1073741823) rfl rfl (one_of HT_.out (by kernel_rfl)) HF rfl (by decide) (fun K_ hK_ => ?_)
    have e140 : b.tmps[140]?.getD undef = .slice E1 y.f1.length e1 := HF.at rfl
    have e146 : b.tmps[146]?.getD undef = .slice F1 y.f1.length f1 := HF.at rfl
    go_simp
    clear e140 e146
    refine (ints_self _ (Kd.C_below (Kd.C_below HgE1.out HM3.out.low) HS.out) HlE1.out (Kd.C_below (Kd.C_below HgF1.out HM3.out.low) HS.out) HlF1.out).mono ?_
    rintro e _ ⟨rfl, ⟨nd, rfl⟩⟩
    have HSn := Aside0.mk (pw_below_drewN HS.out nd)
    refine hK_.out _ _ HSn.out ?_
    clear hK_ K_ HS
    have HS := HSn
    clear HSn HF b
    intro b HF
    refine pureF (i := 30) (k := 148) (v := .bool true) (bt 32 2147483647) rfl rfl (any_of HT_.out (by kernel_rfl)) (fun _ _ _ h => h) HF rfl (by decide) (by intro wq; have e134 : b.tmps[134]?.getD undef = .bool true := HF.at rfl; have e147 : b.tmps[147]?.getD undef = .bool true := HF.at rfl; go_simp) ?_
    clear HF b
    intro b HF
    refine pureF (i := 31) (k := 5) (v := .bool true) (bt 32 4294967295) rfl rfl (any_of HT_.out (by kernel_rfl)) (fun _ _ _ h => h) HF rfl (by decide) (by intro wq; have e148 : b.tmps[148]?.getD undef = .bool true := HF.at rfl; go_simp) ?_
    clear HF b
    intro b HF
    refine done_ (done_of HT_.out (by kernel_rfl)) ?_
    have HM9 := Aside0.mk (HM3.out.step HS.out)
    clear HT_ HW_ HM3 HS HX
    show Code.wp _ _ _ _ _
    refine wp_region_lit ?_
    replace HF := HF.sub [(6, .int .i64 k), (5, .bool true), (3, .pointer (some ⟨w.heap.size + 1, 0, none⟩)), (2, .pointer (some ⟨w.heap.size, 0, none⟩))] (List.forall_mem_cons.2 ⟨rfl, (List.forall_mem_cons.2 ⟨rfl, (List.forall_mem_cons.2 ⟨rfl, (List.forall_mem_cons.2 ⟨rfl, by intro p_ hp_; cases hp_⟩)⟩)⟩)⟩)
    refine listF rfl HF rfl (by decide) (v := .int .i64 k) (by have e6 : b.tmps[6]?.getD undef = .int .i64 k := HF.at rfl; go_simp) ?_
    clear HF b
    intro b HF
    refine listF rfl HF rfl (by decide) (v := .int .i64 (k + 1)) (by have e116 : b.tmps[116]?.getD undef = .int .i64 k := HF.at rfl; go_simp) ?_
    clear HF b
    intro b HF
    refine listF rfl HF rfl (by decide) (v := .int .i64 (k + 1)) (by have e117 : b.tmps[117]?.getD undef = .int .i64 (k + 1) := HF.at rfl; go_simp) ?_
    clear HF b
    intro b HF
    exact ⟨(m.f0.length - (k + 1).toNat : Nat), by omega, k + 1, by omega, by omega, HF.sub _ (List.forall_mem_cons.2 ⟨rfl, (List.forall_mem_cons.2 ⟨rfl, (List.forall_mem_cons.2 ⟨rfl, (List.forall_mem_cons.2 ⟨rfl, by intro p_ hp_; cases hp_⟩)⟩)⟩)⟩), HM9.out⟩
  · have D0 := Aside0.mk (show decide (k < (m.f0.length : Int)) = false from decide_eq_false hlt)
    have XA := Aside0.mk (show wr.cell? ⟨w.heap.size, 0, none⟩ = some (.slice A m.f0.length a) from (HM.out.a.cell 0).trans HA.out)
    refine listF rfl HF rfl (by decide) (v := .int .i64 k) (by have e6 : b.tmps[6]?.getD undef = .int .i64 k := HF.at rfl; go_simp) ?_
    clear HF b
    intro b HF
    refine listF rfl HF rfl (by decide) (v := .pointer (some ⟨w.heap.size, 0, none⟩)) (by have e2 : b.tmps[2]?.getD undef = .pointer (some ⟨w.heap.size, 0, none⟩) := HF.at rfl; go_simp) ?_
    clear HF b
    intro b HF
    refine listF rfl HF rfl (by decide) (v := .slice A m.f0.length a) (by have e112 : b.tmps[112]?.getD undef = .pointer (some ⟨w.heap.size, 0, none⟩) := HF.at rfl; have c_ := XA.out; go_simp) ?_
    clear HF b
    intro b HF
    refine listF rfl HF rfl (by decide) (v := .int .i64 (m.f0.length : Int)) (by have e113 : b.tmps[113]?.getD undef = .slice A m.f0.length a := HF.at rfl; go_simp) ?_
    clear HF b
    intro b HF
    refine listF rfl HF rfl (by decide) (v := .bool false) (by have e111 : b.tmps[111]?.getD undef = .int .i64 k := HF.at rfl; have e114 : b.tmps[114]?.getD undef = .int .i64 (m.f0.length : Int) := HF.at rfl; have d0_ := D0.out; go_simp) ?_
    clear HF b
    intro b HF
    show Code.wp _ _ _ _ _
    refine wp_cond_false (HF.get rfl) ?_
    refine wp_exit ?_
    show K _ _
    exact HKK.out _ _ (HF.sub _ (List.forall_mem_cons.2 ⟨rfl, (List.forall_mem_cons.2 ⟨rfl, (List.forall_mem_cons.2 ⟨rfl, by intro p_ hp_; cases hp_⟩)⟩)⟩)) HM.out
def same.T11 : Bool × List (List Nat × List Nat) := (true, [([], []), ([0], [0]), ([1], [1]), ([2, 1], [1, 2]), ([1], [1]), ([3, 4, 1], [1, 3, 4]), ([5, 1], [1, 5]), ([1], [1]), ([7, 1], [1, 7]), ([1], [1]), ([8, 9, 1], [1, 8, 9]), ([10, 1], [1, 10]), ([6, 11, 1], [1, 6, 11]), ([1, 12], [1, 12]), ([13, 1, 0, 1, 2, 3, 4, 5, 6, 7, 8, 9, 10, 11, 12, 13], [0, 13])])
def same.B11 : List Nat := [0, 1, 3, 7, 3, 31, 63, 3, 131, 3, 899, 1923, 4095, 8191, 16383]
theorem same.tab11 : rtab .any (opsOf Try.f19 11) = same.T11 := by kernel_rfl
theorem same.bits11 : waitsOk same.T11.2 same.B11 = true := by kernel_rfl
set_option maxHeartbeats 4000000 in
set_option maxRecDepth 100000 in
theorem sameL1 {w : World} {m : S61} {ca cb : Array Value} {A C : Option Addr} {a c : Nat} (ga : k118.C w A m.f1.length m.f1) (gc : k118.C w C m.f1.length m.f1) (ha : ca[1]? = some (.slice A m.f1.length a)) (hc : cb[1]? = some (.slice C m.f1.length c))
    {K : Act → World → Prop} {R : Ending → World → Prop} {a1 : Act} {w1 : World} (hF : Fr 464 a1 [(7, .int .i64 0), (5, .bool true), (3, .pointer (some ⟨w.heap.size + 1, 0, none⟩)), (2, .pointer (some ⟨w.heap.size, 0, none⟩))]) (hm : Sm w w1 ca cb)
    (hK : ∀ a' w', Fr 464 a' [(5, .bool true), (3, .pointer (some ⟨w.heap.size + 1, 0, none⟩)), (2, .pointer (some ⟨w.heap.size, 0, none⟩))] → Sm w w' ca cb → K a' w') : (blockOf Try.f19 2).wp Try.prog (Exit.then K (bodyPost Try.prog Try.f19 R)) a1 w1 := by
  have GA := Aside0.mk ga; have GC := Aside0.mk gc; have HA := Aside0.mk ha; have HC := Aside0.mk hc; have HKK := Aside0.mk hK
  clear ga gc ha hc hK
  refine wp_block ?_
  refine wp_loop_ghost (fun q_ b_ w_ => ∃ k : Int, 0 ≤ k ∧ (q_ : Int) + k = m.f1.length ∧ Fr 464 b_ [(7, .int .i64 k), (5, .bool true), (3, .pointer (some ⟨w.heap.size + 1, 0, none⟩)), (2, .pointer (some ⟨w.heap.size, 0, none⟩))] ∧ Sm w w_ ca cb) m.f1.length ⟨0, Int.le_refl _, by omega, hF, hm⟩ ?_
  clear hF hm
  rintro q b wr ⟨k, hk0, hk1, HF, hm⟩
  have HM := Aside0.mk hm
  clear hm
  refine wp_seq ?_
  refine wp_seq ?_
  refine wp_region_lit ?_
  by_cases hlt : k < (m.f1.length : Int)
  · have D0 := Aside0.mk (show decide (k < (m.f1.length : Int)) = true from decide_eq_true hlt)
    have XA := Aside0.mk (show wr.cell? ⟨w.heap.size, 1, none⟩ = some (.slice A m.f1.length a) from (HM.out.a.cell 1).trans HA.out)
    have ew : IntKind.i64.wrap (k + 1) = k + 1 := by have := Kd.C_max GA.out; rw [IntKind.wrap_i64]; omega
    refine listF rfl HF rfl (by decide) (v := .int .i64 k) (by have e7 : b.tmps[7]?.getD undef = .int .i64 k := HF.at rfl; go_simp) ?_
    clear HF b
    intro b HF
    refine listF rfl HF rfl (by decide) (v := .pointer (some ⟨w.heap.size, 1, none⟩)) (by have e2 : b.tmps[2]?.getD undef = .pointer (some ⟨w.heap.size, 0, none⟩) := HF.at rfl; go_simp) ?_
    clear HF b
    intro b HF
    refine listF rfl HF rfl (by decide) (v := .slice A m.f1.length a) (by have e150 : b.tmps[150]?.getD undef = .pointer (some ⟨w.heap.size, 1, none⟩) := HF.at rfl; have c_ := XA.out; go_simp) ?_
    clear HF b
    intro b HF
    refine listF rfl HF rfl (by decide) (v := .int .i64 (m.f1.length : Int)) (by have e151 : b.tmps[151]?.getD undef = .slice A m.f1.length a := HF.at rfl; go_simp) ?_
    clear HF b
    intro b HF
    refine listF rfl HF rfl (by decide) (v := .bool true) (by have e149 : b.tmps[149]?.getD undef = .int .i64 k := HF.at rfl; have e152 : b.tmps[152]?.getD undef = .int .i64 (m.f1.length : Int) := HF.at rfl; have d0_ := D0.out; go_simp) ?_
    clear HF b
    intro b HF
    show Code.wp _ _ _ _ _
    refine wp_cond_true (HF.get rfl) ?_
    refine wp_skip ?_
    show Code.wp _ _ _ _ _
    refine wp_seq ?_
    refine wp_block ?_
    replace HF := HF.sub [(7, .int .i64 k), (5, .bool true), (3, .pointer (some ⟨w.heap.size + 1, 0, none⟩)), (2, .pointer (some ⟨w.heap.size, 0, none⟩))] (List.forall_mem_cons.2 ⟨rfl, (List.forall_mem_cons.2 ⟨rfl, (List.forall_mem_cons.2 ⟨rfl, (List.forall_mem_cons.2 ⟨rfl, by intro p_ hp_; cases hp_⟩)⟩)⟩)⟩)
    clear XA
    obtain ⟨adE, eA, eq0, eq1, eq2, eq3, eq4, eq5, eq6, eq7⟩ := at_T118 GA.out k hk0 hlt
    cases eA
    obtain ⟨adF, eA, fq0, fq1, fq2, fq3, fq4, fq5, fq6, fq7⟩ := at_T118 GC.out k hk0 hlt
    cases eA
    generalize rd_T118 m.f1 k = y at *
    obtain ⟨w3, hw3⟩ : ∃ w3, w3 = wr.drew := ⟨_, rfl⟩
    have HM3 := Aside0.mk (show Sm w w3 ca cb by rw [hw3]; exact HM.out.step (Below.refl _ wr).drew)
    refine start_ (n := 15) (S := fun w' => Below w3.heap.size w3 w') (ds := []) (bt 15 0) (by kernel_rfl) rfl (by kernel_rfl) (by rw [hw3]; exact Below.refl _ _) (fun hHeld => ?_)
    refine with_tabW same.tab11 same.bits11 (fun HT_ HW_ => ?_)
    clear hHeld
    rw [← hw3]
    clear hw3 HM
    have HS := Aside0.mk (Below.refl w3.heap.size w3)
    have HX := Aside0.mk (And.intro (show w3.cell? ⟨w.heap.size, 1, none⟩ = some (.slice (some adE) m.f1.length a) from (HM3.out.a.cell 1).trans HA.out) (show w3.cell? ⟨w.heap.size + 1, 1, none⟩ = some (.slice (some adF) m.f1.length c) from (HM3.out.b.cell 1).trans HC.out))
    have Heq0 := Aside0.mk ((HM3.out.low.cell (World.block_lt_of_cell? w _ eq0)).trans eq0); clear eq0
    have Heq1 := Aside0.mk ((HM3.out.low.cell (World.block_lt_of_cell? w _ eq1)).trans eq1); clear eq1
    have Heq2 := Aside0.mk ((HM3.out.low.cell (World.block_lt_of_cell? w _ eq2)).trans eq2); clear eq2
    have Heq3 := Aside0.mk ((HM3.out.low.cell (World.block_lt_of_cell? w _ eq3)).trans eq3); clear eq3
    have Heq4 := Aside0.mk ((HM3.out.low.cell (World.block_lt_of_cell? w _ eq4)).trans eq4); clear eq4
    have Heq5 := Aside0.mk ((HM3.out.low.cell (World.block_lt_of_cell? w _ eq5)).trans eq5); clear eq5
    have Heq6 := Aside0.mk ((HM3.out.low.cell (World.block_lt_of_cell? w _ eq6)).trans eq6); clear eq6
    have Heq7 := Aside0.mk ((HM3.out.low.cell (World.block_lt_of_cell? w _ eq7)).trans eq7); clear eq7
    have Hfq0 := Aside0.mk ((HM3.out.low.cell (World.block_lt_of_cell? w _ fq0)).trans fq0); clear fq0
    have Hfq1 := Aside0.mk ((HM3.out.low.cell (World.block_lt_of_cell? w _ fq1)).trans fq1); clear fq1
    have Hfq2 := Aside0.mk ((HM3.out.low.cell (World.block_lt_of_cell? w _ fq2)).trans fq2); clear fq2
    have Hfq3 := Aside0.mk ((HM3.out.low.cell (World.block_lt_of_cell? w _ fq3)).trans fq3); clear fq3
    have Hfq4 := Aside0.mk ((HM3.out.low.cell (World.block_lt_of_cell? w _ fq4)).trans fq4); clear fq4
    have Hfq5 := Aside0.mk ((HM3.out.low.cell (World.block_lt_of_cell? w _ fq5)).trans fq5); clear fq5
    have Hfq6 := Aside0.mk ((HM3.out.low.cell (World.block_lt_of_cell? w _ fq6)).trans fq6); clear fq6
    have Hfq7 := Aside0.mk ((HM3.out.low.cell (World.block_lt_of_cell? w _ fq7)).trans fq7); clear fq7
    have J0 : (0 : Int) ≤ k := hk0
    have J1 : k < (m.f1.length : Int) := hlt
    have d1_ : decide (0 ≤ k) = true := decide_eq_true hk0
    have d2_ : decide (k < (m.f1.length : Int)) = true := decide_eq_true hlt
    refine pureF (i := 0) (k := 156) (v := .bool true) (bt 15 1) rfl rfl (any_of HT_.out (by kernel_rfl)) (fun _ _ _ h => h) HF rfl (by decide) (by intro wq; have e5 : b.tmps[5]?.getD undef = .bool true := HF.at rfl; go_simp) ?_
    clear HF b
    intro b HF
    refine pureF (i := 1) (k := 157) (v := .bool true) (bt 15 3) rfl rfl (any_of HT_.out (by kernel_rfl)) (fun _ _ _ h => h) HF rfl (by decide) (by intro wq; have e156 : b.tmps[156]?.getD undef = .bool true := HF.at rfl; go_simp) ?_
    clear HF b
    intro b HF
    refine pureF (i := 2) (k := 158) (v := .pointer (some ⟨w.heap.size, 1, none⟩)) (bt 15 7) rfl rfl (any_of HT_.out (by kernel_rfl)) (fun _ _ _ h => h) HF rfl (by decide) (by intro wq; have e2 : b.tmps[2]?.getD undef = .pointer (some ⟨w.heap.size, 0, none⟩) := HF.at rfl; go_simp) ?_
    clear HF b
    intro b HF
    refine takeF (i := 3) (k := 159) (v := .slice (some adE) m.f1.length a) (bt 15 15) rfl rfl (take_ofW HT_.out HW_.out (by kernel_rfl)) (fun _ _ _ h => h) HF rfl (by decide) (by intro wq hq; have e158 : b.tmps[158]?.getD undef = .pointer (some ⟨w.heap.size, 1, none⟩) := HF.at rfl; have c_ := pw_cell_below hq HX.out.1; go_simp) HS.out ?_
    clear HF b
    intro b HF
    refine pureF (i := 4) (k := 160) (v := .int .i64 k) (bt 15 31) rfl rfl (any_of HT_.out (by kernel_rfl)) (fun _ _ _ h => h) HF rfl (by decide) (by intro wq; have e7 : b.tmps[7]?.getD undef = .int .i64 k := HF.at rfl; go_simp) ?_
    clear HF b
    intro b HF
    refine pureF (i := 5) (k := 161) (v := .pointer (some (adE.add (k.toNat * 8)))) (bt 15 63) rfl rfl (any_of HT_.out (by kernel_rfl)) (fun _ _ _ h => h) HF rfl (by decide) (by intro wq; have e159 : b.tmps[159]?.getD undef = .slice (some adE) m.f1.length a := HF.at rfl; have e160 : b.tmps[160]?.getD undef = .int .i64 k := HF.at rfl; go_simp) ?_
    clear HF b
    intro b HF
    refine takeF (i := 6) (k := 162) (v := .agg #[.string y.f0, .string y.f1, .int .i64 y.f2, .int .i64 y.f3, .bool y.f4, .int .i64 y.f5.f0, .int .i64 y.f5.f1, .bool y.f5.f2]) (bt 15 127) rfl rfl (take_ofW HT_.out HW_.out (by kernel_rfl)) (fun _ _ _ h => h) HF rfl (by decide) (by intro wq hq; have e161 : b.tmps[161]?.getD undef = .pointer (some (adE.add (k.toNat * 8))) := HF.at rfl; have c_0 := pw_cell_below hq Heq0.out; have c_1 := pw_cell_below hq Heq1.out; have c_2 := pw_cell_below hq Heq2.out; have c_3 := pw_cell_below hq Heq3.out; have c_4 := pw_cell_below hq Heq4.out; have c_5 := pw_cell_below hq Heq5.out; have c_6 := pw_cell_below hq Heq6.out; have c_7 := pw_cell_below hq Heq7.out; go_simp) HS.out ?_
    clear HF b
    intro b HF
    refine pureF (i := 7) (k := 163) (v := .pointer (some ⟨w.heap.size + 1, 1, none⟩)) (bt 15 255) rfl rfl (any_of HT_.out (by kernel_rfl)) (fun _ _ _ h => h) HF rfl (by decide) (by intro wq; have e3 : b.tmps[3]?.getD undef = .pointer (some ⟨w.heap.size + 1, 0, none⟩) := HF.at rfl; go_simp) ?_
    clear HF b
    intro b HF
    refine takeF (i := 8) (k := 164) (v := .slice (some adF) m.f1.length c) (bt 15 511) rfl rfl (take_ofW HT_.out HW_.out (by kernel_rfl)) (fun _ _ _ h => h) HF rfl (by decide) (by intro wq hq; have e163 : b.tmps[163]?.getD undef = .pointer (some ⟨w.heap.size + 1, 1, none⟩) := HF.at rfl; have c_ := pw_cell_below hq HX.out.2; go_simp) HS.out ?_
    clear HF b
    intro b HF
    refine pureF (i := 9) (k := 165) (v := .int .i64 k) (bt 15 1023) rfl rfl (any_of HT_.out (by kernel_rfl)) (fun _ _ _ h => h) HF rfl (by decide) (by intro wq; have e7 : b.tmps[7]?.getD undef = .int .i64 k := HF.at rfl; go_simp) ?_
    clear HF b
    intro b HF
    refine pureF (i := 10) (k := 166) (v := .pointer (some (adF.add (k.toNat * 8)))) (bt 15 2047) rfl rfl (any_of HT_.out (by kernel_rfl)) (fun _ _ _ h => h) HF rfl (by decide) (by intro wq; have e164 : b.tmps[164]?.getD undef = .slice (some adF) m.f1.length c := HF.at rfl; have e165 : b.tmps[165]?.getD undef = .int .i64 k := HF.at rfl; go_simp) ?_
    clear HF b
    intro b HF
    refine takeF (i := 11) (k := 167) (v := .agg #[.string y.f0, .string y.f1, .int .i64 y.f2, .int .i64 y.f3, .bool y.f4, .int .i64 y.f5.f0, .int .i64 y.f5.f1, .bool y.f5.f2]) (bt 15 4095) rfl rfl (take_ofW HT_.out HW_.out (by kernel_rfl)) (fun _ _ _ h => h) HF rfl (by decide) (by intro wq hq; have e166 : b.tmps[166]?.getD undef = .pointer (some (adF.add (k.toNat * 8))) := HF.at rfl; have c_0 := pw_cell_below hq Hfq0.out; have c_1 := pw_cell_below hq Hfq1.out; have c_2 := pw_cell_below hq Hfq2.out; have c_3 := pw_cell_below hq Hfq3.out; have c_4 := pw_cell_below hq Hfq4.out; have c_5 := pw_cell_below hq Hfq5.out; have c_6 := pw_cell_below hq Hfq6.out; have c_7 := pw_cell_below hq Hfq7.out; go_simp) HS.out ?_
    clear HF b
    intro b HF
    refine pureF (i := 12) (k := 168) (v := .bool true) (bt 15 8191) rfl rfl (any_of HT_.out (by kernel_rfl)) (fun _ _ _ h => h) HF rfl (by decide) (by intro wq; have e162 : b.tmps[162]?.getD undef = .agg #[.string y.f0, .string y.f1, .int .i64 y.f2, .int .i64 y.f3, .bool y.f4, .int .i64 y.f5.f0, .int .i64 y.f5.f1, .bool y.f5.f2] := HF.at rfl; have e167 : b.tmps[167]?.getD undef = .agg #[.string y.f0, .string y.f1, .int .i64 y.f2, .int .i64 y.f3, .bool y.f4, .int .i64 y.f5.f0, .int .i64 y.f5.f1, .bool y.f5.f2] := HF.at rfl; go_simp) ?_
    clear HF b
    intro b HF
    refine pureF (i := 13) (k := 169) (v := .bool true) (bt 15 16383) rfl rfl (any_of HT_.out (by kernel_rfl)) (fun _ _ _ h => h) HF rfl (by decide) (by intro wq; have e157 : b.tmps[157]?.getD undef = .bool true := HF.at rfl; have e168 : b.tmps[168]?.getD undef = .bool true := HF.at rfl; go_simp) ?_
    clear HF b
    intro b HF
    refine pureF (i := 14) (k := 5) (v := .bool true) (bt 15 32767) rfl rfl (any_of HT_.out (by kernel_rfl)) (fun _ _ _ h => h) HF rfl (by decide) (by intro wq; have e169 : b.tmps[169]?.getD undef = .bool true := HF.at rfl; go_simp) ?_
    clear HF b
    intro b HF
    refine done_ (done_of HT_.out (by kernel_rfl)) ?_
    have HM9 := Aside0.mk (HM3.out.step HS.out)
    clear HT_ HW_ HM3 HS HX
    show Code.wp _ _ _ _ _
    refine wp_region_lit ?_
    replace HF := HF.sub [(7, .int .i64 k), (5, .bool true), (3, .pointer (some ⟨w.heap.size + 1, 0, none⟩)), (2, .pointer (some ⟨w.heap.size, 0, none⟩))] (List.forall_mem_cons.2 ⟨rfl, (List.forall_mem_cons.2 ⟨rfl, (List.forall_mem_cons.2 ⟨rfl, (List.forall_mem_cons.2 ⟨rfl, by intro p_ hp_; cases hp_⟩)⟩)⟩)⟩)
    refine listF rfl HF rfl (by decide) (v := .int .i64 k) (by have e7 : b.tmps[7]?.getD undef = .int .i64 k := HF.at rfl; go_simp) ?_
    clear HF b
    intro b HF
    refine listF rfl HF rfl (by decide) (v := .int .i64 (k + 1)) (by have e154 : b.tmps[154]?.getD undef = .int .i64 k := HF.at rfl; go_simp) ?_
    clear HF b
    intro b HF
    refine listF rfl HF rfl (by decide) (v := .int .i64 (k + 1)) (by have e155 : b.tmps[155]?.getD undef = .int .i64 (k + 1) := HF.at rfl; go_simp) ?_
    clear HF b
    intro b HF
    exact ⟨(m.f1.length - (k + 1).toNat : Nat), by omega, k + 1, by omega, by omega, HF.sub _ (List.forall_mem_cons.2 ⟨rfl, (List.forall_mem_cons.2 ⟨rfl, (List.forall_mem_cons.2 ⟨rfl, (List.forall_mem_cons.2 ⟨rfl, by intro p_ hp_; cases hp_⟩)⟩)⟩)⟩), HM9.out⟩
  · have D0 := Aside0.mk (show decide (k < (m.f1.length : Int)) = false from decide_eq_false hlt)
    have XA := Aside0.mk (show wr.cell? ⟨w.heap.size, 1, none⟩ = some (.slice A m.f1.length a) from (HM.out.a.cell 1).trans HA.out)
    refine listF rfl HF rfl (by decide) (v := .int .i64 k) (by have e7 : b.tmps[7]?.getD undef = .int .i64 k := HF.at rfl; go_simp) ?_
    clear HF b
    intro b HF
    refine listF rfl HF rfl (by decide) (v := .pointer (some ⟨w.heap.size, 1, none⟩)) (by have e2 : b.tmps[2]?.getD undef = .pointer (some ⟨w.heap.size, 0, none⟩) := HF.at rfl; go_simp) ?_
    clear HF b
    intro b HF
    refine listF rfl HF rfl (by decide) (v := .slice A m.f1.length a) (by have e150 : b.tmps[150]?.getD undef = .pointer (some ⟨w.heap.size, 1, none⟩) := HF.at rfl; have c_ := XA.out; go_simp) ?_
    clear HF b
    intro b HF
    refine listF rfl HF rfl (by decide) (v := .int .i64 (m.f1.length : Int)) (by have e151 : b.tmps[151]?.getD undef = .slice A m.f1.length a := HF.at rfl; go_simp) ?_
    clear HF b
    intro b HF
    refine listF rfl HF rfl (by decide) (v := .bool false) (by have e149 : b.tmps[149]?.getD undef = .int .i64 k := HF.at rfl; have e152 : b.tmps[152]?.getD undef = .int .i64 (m.f1.length : Int) := HF.at rfl; have d0_ := D0.out; go_simp) ?_
    clear HF b
    intro b HF
    show Code.wp _ _ _ _ _
    refine wp_cond_false (HF.get rfl) ?_
    refine wp_exit ?_
    show K _ _
    exact HKK.out _ _ (HF.sub _ (List.forall_mem_cons.2 ⟨rfl, (List.forall_mem_cons.2 ⟨rfl, (List.forall_mem_cons.2 ⟨rfl, by intro p_ hp_; cases hp_⟩)⟩)⟩)) HM.out
def same.T15 : Bool × List (List Nat × List Nat) := (true, [([], []), ([0], [0]), ([1], [1]), ([2, 1], [1, 2]), ([1], [1]), ([3, 4, 1], [1, 3, 4]), ([5, 1], [1, 5]), ([6, 1], [1, 6]), ([1], [1]), ([8, 1], [1, 8]), ([1], [1]), ([9, 10, 1], [1, 9, 10]), ([11, 1], [1, 11]), ([12, 1], [1, 12]), ([7, 13, 1], [1, 7, 13]), ([1, 14], [1, 14]), ([15, 1], [15]), ([16], [16]), ([17, 16], [16, 17]), ([16], [16]), ([18, 19, 16], [16, 18, 19]), ([20, 16], [16, 20]), ([21, 16], [16, 21]), ([16], [16]), ([23, 16], [16, 23]), ([16], [16]), ([24, 25, 16], [16, 24, 25]), ([26, 16], [16, 26]), ([27, 16], [16, 27]), ([22, 28, 16, 16], [16, 22, 28]), ([16, 29], [16, 29]), ([30, 29], [30]), ([31], [31]), ([32, 31], [31, 32]), ([31], [31]), ([33, 34, 31], [31, 33, 34]), ([35, 31], [31, 35]), ([36, 31], [31, 36]), ([31], [31]), ([38, 31], [31, 38]), ([31], [31]), ([39, 40, 31], [31, 39, 40]), ([41, 31], [31, 41]), ([42, 31], [31, 42]), ([37, 43, 31, 31], [31, 37, 43]), ([31, 44], [31, 44]), ([45, 44, 0, 1, 2, 3, 4, 5, 6, 7, 8, 9, 10, 11, 12, 13, 14, 15, 16, 17, 18, 19, 20, 21, 22, 23, 24, 25, 26, 27, 28, 29, 30, 31, 32, 33, 34, 35, 36, 37, 38, 39, 40, 41, 42, 43, 44, 45], [0, 45])])
def same.B15 : List Nat := [0, 1, 3, 7, 3, 31, 63, 127, 3, 259, 3, 1795, 3843, 7939, 16383, 32767, 65535, 131071, 262143, 131071, 1048575, 2097151, 4194303, 131071, 8519679, 131071, 58851327, 125960191, 260177919, 536870911, 1073741823, 2147483647, 4294967295, 8589934591, 4294967295, 34359738367, 68719476735, 137438953471, 4294967295, 279172874239, 4294967295, 1928440315903, 4127463571455, 8525510082559, 17592186044415, 35184372088831, 70368744177663]
theorem same.tab15 : rtab .any (opsOf Try.f19 15) = same.T15 := by kernel_rfl
theorem same.bits15 : waitsOk same.T15.2 same.B15 = true := by kernel_rfl
set_option maxHeartbeats 4000000 in
set_option maxRecDepth 100000 in
theorem sameL2 {w : World} {m : S61} {ca cb : Array Value} {A C : Option Addr} {a c : Nat} (ga : k101.C w A m.f2.length m.f2) (gc : k101.C w C m.f2.length m.f2) (ha : ca[2]? = some (.slice A m.f2.length a)) (hc : cb[2]? = some (.slice C m.f2.length c))
    {K : Act → World → Prop} {R : Ending → World → Prop} {a1 : Act} {w1 : World} (hF : Fr 464 a1 [(8, .int .i64 0), (5, .bool true), (3, .pointer (some ⟨w.heap.size + 1, 0, none⟩)), (2, .pointer (some ⟨w.heap.size, 0, none⟩))]) (hm : Sm w w1 ca cb)
    (hK : ∀ a' w', Fr 464 a' [(5, .bool true), (3, .pointer (some ⟨w.heap.size + 1, 0, none⟩)), (2, .pointer (some ⟨w.heap.size, 0, none⟩))] → Sm w w' ca cb → K a' w') : (blockOf Try.f19 4).wp Try.prog (Exit.then K (bodyPost Try.prog Try.f19 R)) a1 w1 := by
  have GA := Aside0.mk ga; have GC := Aside0.mk gc; have HA := Aside0.mk ha; have HC := Aside0.mk hc; have HKK := Aside0.mk hK
  clear ga gc ha hc hK
  refine wp_block ?_
  refine wp_loop_ghost (fun q_ b_ w_ => ∃ k : Int, 0 ≤ k ∧ (q_ : Int) + k = m.f2.length ∧ Fr 464 b_ [(8, .int .i64 k), (5, .bool true), (3, .pointer (some ⟨w.heap.size + 1, 0, none⟩)), (2, .pointer (some ⟨w.heap.size, 0, none⟩))] ∧ Sm w w_ ca cb) m.f2.length ⟨0, Int.le_refl _, by omega, hF, hm⟩ ?_
  clear hF hm
  rintro q b wr ⟨k, hk0, hk1, HF, hm⟩
  have HM := Aside0.mk hm
  clear hm
  refine wp_seq ?_
  refine wp_seq ?_
  refine wp_region_lit ?_
  by_cases hlt : k < (m.f2.length : Int)
  · have D0 := Aside0.mk (show decide (k < (m.f2.length : Int)) = true from decide_eq_true hlt)
    have XA := Aside0.mk (show wr.cell? ⟨w.heap.size, 2, none⟩ = some (.slice A m.f2.length a) from (HM.out.a.cell 2).trans HA.out)
    have ew : IntKind.i64.wrap (k + 1) = k + 1 := by have := Kd.C_max GA.out; rw [IntKind.wrap_i64]; omega
    refine listF rfl HF rfl (by decide) (v := .int .i64 k) (by have e8 : b.tmps[8]?.getD undef = .int .i64 k := HF.at rfl; go_simp) ?_
    clear HF b
    intro b HF
    refine listF rfl HF rfl (by decide) (v := .pointer (some ⟨w.heap.size, 2, none⟩)) (by have e2 : b.tmps[2]?.getD undef = .pointer (some ⟨w.heap.size, 0, none⟩) := HF.at rfl; go_simp) ?_
    clear HF b
    intro b HF
    refine listF rfl HF rfl (by decide) (v := .slice A m.f2.length a) (by have e171 : b.tmps[171]?.getD undef = .pointer (some ⟨w.heap.size, 2, none⟩) := HF.at rfl; have c_ := XA.out; go_simp) ?_
    clear HF b
    intro b HF
    refine listF rfl HF rfl (by decide) (v := .int .i64 (m.f2.length : Int)) (by have e172 : b.tmps[172]?.getD undef = .slice A m.f2.length a := HF.at rfl; go_simp) ?_
    clear HF b
    intro b HF
    refine listF rfl HF rfl (by decide) (v := .bool true) (by have e170 : b.tmps[170]?.getD undef = .int .i64 k := HF.at rfl; have e173 : b.tmps[173]?.getD undef = .int .i64 (m.f2.length : Int) := HF.at rfl; have d0_ := D0.out; go_simp) ?_
    clear HF b
    intro b HF
    show Code.wp _ _ _ _ _
    refine wp_cond_true (HF.get rfl) ?_
    refine wp_skip ?_
    show Code.wp _ _ _ _ _
    refine wp_seq ?_
    refine wp_block ?_
    replace HF := HF.sub [(8, .int .i64 k), (5, .bool true), (3, .pointer (some ⟨w.heap.size + 1, 0, none⟩)), (2, .pointer (some ⟨w.heap.size, 0, none⟩))] (List.forall_mem_cons.2 ⟨rfl, (List.forall_mem_cons.2 ⟨rfl, (List.forall_mem_cons.2 ⟨rfl, (List.forall_mem_cons.2 ⟨rfl, by intro p_ hp_; cases hp_⟩)⟩)⟩)⟩)
    clear XA
    obtain ⟨adE, E1, e1, E2, e2, eA, eq0, eq1, eq2, lE1, gE1, lE2, gE2⟩ := at_T101 GA.out k hk0 hlt
    cases eA
    obtain ⟨adF, F1, f1, F2, f2, eA, fq0, fq1, fq2, lF1, gF1, lF2, gF2⟩ := at_T101 GC.out k hk0 hlt
    cases eA
    generalize rd_T101 m.f2 k = y at *
    have HlE1 := Aside0.mk lE1; have HgE1 := Aside0.mk gE1; clear lE1 gE1
    have HlE2 := Aside0.mk lE2; have HgE2 := Aside0.mk gE2; clear lE2 gE2
    have HlF1 := Aside0.mk lF1; have HgF1 := Aside0.mk gF1; clear lF1 gF1
    have HlF2 := Aside0.mk lF2; have HgF2 := Aside0.mk gF2; clear lF2 gF2
    obtain ⟨w3, hw3⟩ : ∃ w3, w3 = wr.drew := ⟨_, rfl⟩
    have HM3 := Aside0.mk (show Sm w w3 ca cb by rw [hw3]; exact HM.out.step (Below.refl _ wr).drew)
    refine start_ (n := 47) (S := fun w' => Below w3.heap.size w3 w') (ds := []) (bt 47 0) (by kernel_rfl) rfl (by kernel_rfl) (by rw [hw3]; exact Below.refl _ _) (fun hHeld => ?_)
    refine with_tabW same.tab15 same.bits15 (fun HT_ HW_ => ?_)
    clear hHeld
    rw [← hw3]
    clear hw3 HM
    have HS := Aside0.mk (Below.refl w3.heap.size w3)
    have HX := Aside0.mk (And.intro (show w3.cell? ⟨w.heap.size, 2, none⟩ = some (.slice (some adE) m.f2.length a) from (HM3.out.a.cell 2).trans HA.out) (show w3.cell? ⟨w.heap.size + 1, 2, none⟩ = some (.slice (some adF) m.f2.length c) from (HM3.out.b.cell 2).trans HC.out))
    have Heq0 := Aside0.mk ((HM3.out.low.cell (World.block_lt_of_cell? w _ eq0)).trans eq0); clear eq0
    have Heq1 := Aside0.mk ((HM3.out.low.cell (World.block_lt_of_cell? w _ eq1)).trans eq1); clear eq1
    have Heq2 := Aside0.mk ((HM3.out.low.cell (World.block_lt_of_cell? w _ eq2)).trans eq2); clear eq2
    have Hfq0 := Aside0.mk ((HM3.out.low.cell (World.block_lt_of_cell? w _ fq0)).trans fq0); clear fq0
    have Hfq1 := Aside0.mk ((HM3.out.low.cell (World.block_lt_of_cell? w _ fq1)).trans fq1); clear fq1
    have Hfq2 := Aside0.mk ((HM3.out.low.cell (World.block_lt_of_cell? w _ fq2)).trans fq2); clear fq2
    have J0 : (0 : Int) ≤ k := hk0
    have J1 : k < (m.f2.length : Int) := hlt
    have d1_ : decide (0 ≤ k) = true := decide_eq_true hk0
    have d2_ : decide (k < (m.f2.length : Int)) = true := decide_eq_true hlt
    refine pureF (i := 0) (k := 177) (v := .bool true) (bt 47 1) rfl rfl (any_of HT_.out (by kernel_rfl)) (fun _ _ _ h => h) HF rfl (by decide) (by intro wq; have e5 : b.tmps[5]?.getD undef = .bool true := HF.at rfl; go_simp) ?_
    clear HF b
    intro b HF
    refine pureF (i := 1) (k := 178) (v := .bool true) (bt 47 3) rfl rfl (any_of HT_.out (by kernel_rfl)) (fun _ _ _ h => h) HF rfl (by decide) (by intro wq; have e177 : b.tmps[177]?.getD undef = .bool true := HF.at rfl; go_simp) ?_
    clear HF b
    intro b HF
    refine pureF (i := 2) (k := 179) (v := .pointer (some ⟨w.heap.size, 2, none⟩)) (bt 47 7) rfl rfl (any_of HT_.out (by kernel_rfl)) (fun _ _ _ h => h) HF rfl (by decide) (by intro wq; have e2 : b.tmps[2]?.getD undef = .pointer (some ⟨w.heap.size, 0, none⟩) := HF.at rfl; go_simp) ?_
    clear HF b
    intro b HF
    refine takeF (i := 3) (k := 180) (v := .slice (some adE) m.f2.length a) (bt 47 15) rfl rfl (take_ofW HT_.out HW_.out (by kernel_rfl)) (fun _ _ _ h => h) HF rfl (by decide) (by intro wq hq; have e179 : b.tmps[179]?.getD undef = .pointer (some ⟨w.heap.size, 2, none⟩) := HF.at rfl; have c_ := pw_cell_below hq HX.out.1; go_simp) HS.out ?_
    clear HF b
    intro b HF
    refine pureF (i := 4) (k := 181) (v := .int .i64 k) (bt 47 31) rfl rfl (any_of HT_.out (by kernel_rfl)) (fun _ _ _ h => h) HF rfl (by decide) (by intro wq; have e8 : b.tmps[8]?.getD undef = .int .i64 k := HF.at rfl; go_simp) ?_
    clear HF b
    intro b HF
    refine pureF (i := 5) (k := 182) (v := .pointer (some (adE.add (k.toNat * 3)))) (bt 47 63) rfl rfl (any_of HT_.out (by kernel_rfl)) (fun _ _ _ h => h) HF rfl (by decide) (by intro wq; have e180 : b.tmps[180]?.getD undef = .slice (some adE) m.f2.length a := HF.at rfl; have e181 : b.tmps[181]?.getD undef = .int .i64 k := HF.at rfl; go_simp) ?_
    clear HF b
    intro b HF
    refine pureF (i := 6) (k := 183) (v := .pointer (some (adE.add (k.toNat * 3)))) (bt 47 127) rfl rfl (any_of HT_.out (by kernel_rfl)) (fun _ _ _ h => h) HF rfl (by decide) (by intro wq; have e182 : b.tmps[182]?.getD undef = .pointer (some (adE.add (k.toNat * 3))) := HF.at rfl; go_simp) ?_
    clear HF b
    intro b HF
    refine takeF (i := 7) (k := 184) (v := .int .i64 y.f0) (bt 47 255) rfl rfl (take_ofW HT_.out HW_.out (by kernel_rfl)) (fun _ _ _ h => h) HF rfl (by decide) (by intro wq hq; have e183 : b.tmps[183]?.getD undef = .pointer (some (adE.add (k.toNat * 3))) := HF.at rfl; have c_0 := pw_cell_below hq Heq0.out; go_simp) HS.out ?_
    clear HF b
    intro b HF
    refine pureF (i := 8) (k := 185) (v := .pointer (some ⟨w.heap.size + 1, 2, none⟩)) (bt 47 511) rfl rfl (any_of HT_.out (by kernel_rfl)) (fun _ _ _ h => h) HF rfl (by decide) (by intro wq; have e3 : b.tmps[3]?.getD undef = .pointer (some ⟨w.heap.size + 1, 0, none⟩) := HF.at rfl; go_simp) ?_
    clear HF b
    intro b HF
    refine takeF (i := 9) (k := 186) (v := .slice (some adF) m.f2.length c) (bt 47 1023) rfl rfl (take_ofW HT_.out HW_.out (by kernel_rfl)) (fun _ _ _ h => h) HF rfl (by decide) (by intro wq hq; have e185 : b.tmps[185]?.getD undef = .pointer (some ⟨w.heap.size + 1, 2, none⟩) := HF.at rfl; have c_ := pw_cell_below hq HX.out.2; go_simp) HS.out ?_
    clear HF b
    intro b HF
    refine pureF (i := 10) (k := 187) (v := .int .i64 k) (bt 47 2047) rfl rfl (any_of HT_.out (by kernel_rfl)) (fun _ _ _ h => h) HF rfl (by decide) (by intro wq; have e8 : b.tmps[8]?.getD undef = .int .i64 k := HF.at rfl; go_simp) ?_
    clear HF b
    intro b HF
    refine pureF (i := 11) (k := 188) (v := .pointer (some (adF.add (k.toNat * 3)))) (bt 47 4095) rfl rfl (any_of HT_.out (by kernel_rfl)) (fun _ _ _ h => h) HF rfl (by decide) (by intro wq; have e186 : b.tmps[186]?.getD undef = .slice (some adF) m.f2.length c := HF.at rfl; have e187 : b.tmps[187]?.getD undef = .int .i64 k := HF.at rfl; go_simp) ?_
    clear HF b
    intro b HF
    refine pureF (i := 12) (k := 189) (v := .pointer (some (adF.add (k.toNat * 3)))) (bt 47 8191) rfl rfl (any_of HT_.out (by kernel_rfl)) (fun _ _ _ h => h) HF rfl (by decide) (by intro wq; have e188 : b.tmps[188]?.getD undef = .pointer (some (adF.add (k.toNat * 3))) := HF.at rfl; go_simp) ?_
    clear HF b
    intro b HF
    refine takeF (i := 13) (k := 190) (v := .int .i64 y.f0) (bt 47 16383) rfl rfl (take_ofW HT_.out HW_.out (by kernel_rfl)) (fun _ _ _ h => h) HF rfl (by decide) (by intro wq hq; have e189 : b.tmps[189]?.getD undef = .pointer (some (adF.add (k.toNat * 3))) := HF.at rfl; have c_0 := pw_cell_below hq Hfq0.out; go_simp) HS.out ?_
    clear HF b
    intro b HF
    refine pureF (i := 14) (k := 191) (v := .bool true) (bt 47 32767) rfl rfl (any_of HT_.out (by kernel_rfl)) (fun _ _ _ h => h) HF rfl (by decide) (by intro wq; have e184 : b.tmps[184]?.getD undef = .int .i64 y.f0 := HF.at rfl; have e190 : b.tmps[190]?.getD undef = .int .i64 y.f0 := HF.at rfl; go_simp) ?_
    clear HF b
    intro b HF
    refine pureF (i := 15) (k := 192) (v := .bool true) (bt 47 65535) rfl rfl (any_of HT_.out (by kernel_rfl)) (fun _ _ _ h => h) HF rfl (by decide) (by intro wq; have e178 : b.tmps[178]?.getD undef = .bool true := HF.at rfl; have e191 : b.tmps[191]?.getD undef = .bool true := HF.at rfl; go_simp) ?_
    clear HF b
    intro b HF
    refine pureF (i := 16) (k := 193) (v := .bool true) (bt 47 131071) rfl rfl (any_of HT_.out (by kernel_rfl)) (fun _ _ _ h => h) HF rfl (by decide) (by intro wq; have e192 : b.tmps[192]?.getD undef = .bool true := HF.at rfl; go_simp) ?_
    clear HF b
    intro b HF
    refine pureF (i := 17) (k := 194) (v := .pointer (some ⟨w.heap.size, 2, none⟩)) (bt 47 262143) rfl rfl (any_of HT_.out (by kernel_rfl)) (fun _ _ _ h => h) HF rfl (by decide) (by intro wq; have e2 : b.tmps[2]?.getD undef = .pointer (some ⟨w.heap.size, 0, none⟩) := HF.at rfl; go_simp) ?_
    clear HF b
    intro b HF
    refine takeF (i := 18) (k := 195) (v := .slice (some adE) m.f2.length a) (bt 47 524287) rfl rfl (take_ofW HT_.out HW_.out (by kernel_rfl)) (fun _ _ _ h => h) HF rfl (by decide) (by intro wq hq; have e194 : b.tmps[194]?.getD undef = .pointer (some ⟨w.heap.size, 2, none⟩) := HF.at rfl; have c_ := pw_cell_below hq HX.out.1; go_simp) HS.out ?_
    clear HF b
    intro b HF
    refine pureF (i := 19) (k := 196) (v := .int .i64 k) (bt 47 1048575) rfl rfl (any_of HT_.out (by kernel_rfl)) (fun _ _ _ h => h) HF rfl (by decide) (by intro wq; have e8 : b.tmps[8]?.getD undef = .int .i64 k := HF.at rfl; go_simp) ?_
    clear HF b
    intro b HF
    refine pureF (i := 20) (k := 197) (v := .pointer (some (adE.add (k.toNat * 3)))) (bt 47 2097151) rfl rfl (any_of HT_.out (by kernel_rfl)) (fun _ _ _ h => h) HF rfl (by decide) (by intro wq; have e195 : b.tmps[195]?.getD undef = .slice (some adE) m.f2.length a := HF.at rfl; have e196 : b.tmps[196]?.getD undef = .int .i64 k := HF.at rfl; go_simp) ?_
    clear HF b
    intro b HF
    refine pureF (i := 21) (k := 198) (v := .pointer (some ⟨(adE.add (k.toNat * 3)).block, (adE.add (k.toNat * 3)).off + 1, none⟩)) (bt 47 4194303) rfl rfl (any_of HT_.out (by kernel_rfl)) (fun _ _ _ h => h) HF rfl (by decide) (by intro wq; have e197 : b.tmps[197]?.getD undef = .pointer (some (adE.add (k.toNat * 3))) := HF.at rfl; go_simp) ?_
    clear HF b
    intro b HF
    refine takeF (i := 22) (k := 199) (v := .slice E1 y.f1.length e1) (bt 47 8388607) rfl rfl (take_ofW HT_.out HW_.out (by kernel_rfl)) (fun _ _ _ h => h) HF rfl (by decide) (by intro wq hq; have e198 : b.tmps[198]?.getD undef = .pointer (some ⟨(adE.add (k.toNat * 3)).block, (adE.add (k.toNat * 3)).off + 1, none⟩) := HF.at rfl; have c_1 := pw_cell_below hq Heq1.out; go_simp) HS.out ?_
    clear HF b
    intro b HF
    refine pureF (i := 23) (k := 200) (v := .pointer (some ⟨w.heap.size + 1, 2, none⟩)) (bt 47 16777215) rfl rfl (any_of HT_.out (by kernel_rfl)) (fun _ _ _ h => h) HF rfl (by decide) (by intro wq; have e3 : b.tmps[3]?.getD undef = .pointer (some ⟨w.heap.size + 1, 0, none⟩) := HF.at rfl; go_simp) ?_
    clear HF b
    intro b HF
    refine takeF (i := 24) (k := 201) (v := .slice (some adF) m.f2.length c) (bt 47 33554431) rfl rfl (take_ofW HT_.out HW_.out (by kernel_rfl)) (fun _ _ _ h => h) HF rfl (by decide) (by intro wq hq; have e200 : b.tmps[200]?.getD undef = .pointer (some ⟨w.heap.size + 1, 2, none⟩) := HF.at rfl; have c_ := pw_cell_below hq HX.out.2; go_simp) HS.out ?_
    clear HF b
    intro b HF
    refine pureF (i := 25) (k := 202) (v := .int .i64 k) (bt 47 67108863) rfl rfl (any_of HT_.out (by kernel_rfl)) (fun _ _ _ h => h) HF rfl (by decide) (by intro wq; have e8 : b.tmps[8]?.getD undef = .int .i64 k := HF.at rfl; go_simp) ?_
    clear HF b
    intro b HF
    refine pureF (i := 26) (k := 203) (v := .pointer (some (adF.add (k.toNat * 3)))) (bt 47 134217727) rfl rfl (any_of HT_.out (by kernel_rfl)) (fun _ _ _ h => h) HF rfl (by decide) (by intro wq; have e201 : b.tmps[201]?.getD undef = .slice (some adF) m.f2.length c := HF.at rfl; have e202 : b.tmps[202]?.getD undef = .int .i64 k := HF.at rfl; go_simp) ?_
    clear HF b
    intro b HF
    refine pureF (i := 27) (k := 204) (v := .pointer (some ⟨(adF.add (k.toNat * 3)).block, (adF.add (k.toNat * 3)).off + 1, none⟩)) (bt 47 268435455) rfl rfl (any_of HT_.out (by kernel_rfl)) (fun _ _ _ h => h) HF rfl (by decide) (by intro wq; have e203 : b.tmps[203]?.getD undef = .pointer (some (adF.add (k.toNat * 3))) := HF.at rfl; go_simp) ?_
    clear HF b
    intro b HF
    refine takeF (i := 28) (k := 205) (v := .slice F1 y.f1.length f1) (bt 47 536870911) rfl rfl (take_ofW HT_.out HW_.out (by kernel_rfl)) (fun _ _ _ h => h) HF rfl (by decide) (by intro wq hq; have e204 : b.tmps[204]?.getD undef = .pointer (some ⟨(adF.add (k.toNat * 3)).block, (adF.add (k.toNat * 3)).off + 1, none⟩) := HF.at rfl; have c_1 := pw_cell_below hq Hfq1.out; go_simp) HS.out ?_
    clear HF b
    intro b HF
    refine oneF (i := 29) (k := 206) (bt 47 1073741823) rfl rfl (one_of HT_.out (by kernel_rfl)) HF rfl (by decide) (fun K_ hK_ => ?_)
    have e199 : b.tmps[199]?.getD undef = .slice E1 y.f1.length e1 := HF.at rfl
    have e205 : b.tmps[205]?.getD undef = .slice F1 y.f1.length f1 := HF.at rfl
    go_simp
    clear e199 e205
    refine (ints_self _ (Kd.C_below (Kd.C_below HgE1.out HM3.out.low) HS.out) HlE1.out (Kd.C_below (Kd.C_below HgF1.out HM3.out.low) HS.out) HlF1.out).mono ?_
    rintro e _ ⟨rfl, ⟨nd, rfl⟩⟩
    have HSn := Aside0.mk (pw_below_drewN HS.out nd)
    refine hK_.out _ _ HSn.out ?_
    clear hK_ K_ HS
    have HS := HSn
    clear HSn HF b
    intro b HF
    refine pureF (i := 30) (k := 207) (v := .bool true) (bt 47 2147483647) rfl rfl (any_of HT_.out (by kernel_rfl)) (fun _ _ _ h => h) HF rfl (by decide) (by intro wq; have e193 : b.tmps[193]?.getD undef = .bool true := HF.at rfl; have e206 : b.tmps[206]?.getD undef = .bool true := HF.at rfl; go_simp) ?_
    clear HF b
    intro b HF
    refine pureF (i := 31) (k := 208) (v := .bool true) (bt 47 4294967295) rfl rfl (any_of HT_.out (by kernel_rfl)) (fun _ _ _ h => h) HF rfl (by decide) (by intro wq; have e207 : b.tmps[207]?.getD undef = .bool true := HF.at rfl; go_simp) ?_
    clear HF b
    intro b HF
    refine pureF (i := 32) (k := 209) (v := .pointer (some ⟨w.heap.size, 2, none⟩)) (bt 47 8589934591) rfl rfl (any_of HT_.out (by kernel_rfl)) (fun _ _ _ h => h) HF rfl (by decide) (by intro wq; have e2 : b.tmps[2]?.getD undef = .pointer (some ⟨w.heap.size, 0, none⟩) := HF.at rfl; go_simp) ?_
    clear HF b
    intro b HF
    refine takeF (i := 33) (k := 210) (v := .slice (some adE) m.f2.length a) (bt 47 17179869183) rfl rfl (take_ofW HT_.out HW_.out (by kernel_rfl)) (fun _ _ _ h => h) HF rfl (by decide) (by intro wq hq; have e209 : b.tmps[209]?.getD undef = .pointer (some ⟨w.heap.size, 2, none⟩) := HF.at rfl; have c_ := pw_cell_below hq HX.out.1; go_simp) HS.out ?_
    clear HF b
    intro b HF
    refine pureF (i := 34) (k := 211) (v := .int .i64 k) (bt 47 34359738367) rfl rfl (any_of HT_.out (by kernel_rfl)) (fun _ _ _ h => h) HF rfl (by decide) (by intro wq; have e8 : b.tmps[8]?.getD undef = .int .i64 k := HF.at rfl; go_simp) ?_
    clear HF b
    intro b HF
    refine pureF (i := 35) (k := 212) (v := .pointer (some (adE.add (k.toNat * 3)))) (bt 47 68719476735) rfl rfl (any_of HT_.out (by kernel_rfl)) (fun _ _ _ h => h) HF rfl (by decide) (by intro wq; have e210 : b.tmps[210]?.getD undef = .slice (some adE) m.f2.length a := HF.at rfl; have e211 : b.tmps[211]?.getD undef = .int .i64 k := HF.at rfl; go_simp) ?_
    clear HF b
    intro b HF
    refine pureF (i := 36) (k := 213) (v := .pointer (some ⟨(adE.add (k.toNat * 3)).block, (adE.add (k.toNat * 3)).off + 2, none⟩)) (bt 47 137438953471) rfl rfl (any_of HT_.out (by kernel_rfl)) (fun _ _ _ h => h) HF rfl (by decide) (by intro wq; have e212 : b.tmps[212]?.getD undef = .pointer (some (adE.add (k.toNat * 3))) := HF.at rfl; go_simp) ?_
    clear HF b
    intro b HF
    refine takeF (i := 37) (k := 214) (v := .slice E2 y.f2.length e2) (bt 47 274877906943) rfl rfl (take_ofW HT_.out HW_.out (by kernel_rfl)) (fun _ _ _ h => h) HF rfl (by decide) (by intro wq hq; have e213 : b.tmps[213]?.getD undef = .pointer (some ⟨(adE.add (k.toNat * 3)).block, (adE.add (k.toNat * 3)).off + 2, none⟩) := HF.at rfl; have c_2 := pw_cell_below hq Heq2.out; go_simp) HS.out ?_
    clear HF b
    intro b HF
    refine pureF (i := 38) (k := 215) (v := .pointer (some ⟨w.heap.size + 1, 2, none⟩)) (bt 47 549755813887) rfl rfl (any_of HT_.out (by kernel_rfl)) (fun _ _ _ h => h) HF rfl (by decide) (by intro wq; have e3 : b.tmps[3]?.getD undef = .pointer (some ⟨w.heap.size + 1, 0, none⟩) := HF.at rfl; go_simp) ?_
    clear HF b
    intro b HF
    refine takeF (i := 39) (k := 216) (v := .slice (some adF) m.f2.length c) (bt 47 1099511627775) rfl rfl (take_ofW HT_.out HW_.out (by kernel_rfl)) (fun _ _ _ h => h) HF rfl (by decide) (by intro wq hq; have e215 : b.tmps[215]?.getD undef = .pointer (some ⟨w.heap.size + 1, 2, none⟩) := HF.at rfl; have c_ := pw_cell_below hq HX.out.2; go_simp) HS.out ?_
    clear HF b
    intro b HF
    refine pureF (i := 40) (k := 217) (v := .int .i64 k) (bt 47 2199023255551) rfl rfl (any_of HT_.out (by kernel_rfl)) (fun _ _ _ h => h) HF rfl (by decide) (by intro wq; have e8 : b.tmps[8]?.getD undef = .int .i64 k := HF.at rfl; go_simp) ?_
    clear HF b
    intro b HF
    refine pureF (i := 41) (k := 218) (v := .pointer (some (adF.add (k.toNat * 3)))) (bt 47 4398046511103) rfl rfl (any_of HT_.out (by kernel_rfl)) (fun _ _ _ h => h) HF rfl (by decide) (by intro wq; have e216 : b.tmps[216]?.getD undef = .slice (some adF) m.f2.length c := HF.at rfl; have e217 : b.tmps[217]?.getD undef = .int .i64 k := HF.at rfl; go_simp) ?_
    clear HF b
    intro b HF
    refine pureF (i := 42) (k := 219) (v := .pointer (some ⟨(adF.add (k.toNat * 3)).block, (adF.add (k.toNat * 3)).off + 2, none⟩)) (bt 47 8796093022207) rfl rfl (any_of HT_.out (by kernel_rfl)) (fun _ _ _ h => h) HF rfl (by decide) (by intro wq; have e218 : b.tmps[218]?.getD undef = .pointer (some (adF.add (k.toNat * 3))) := HF.at rfl; go_simp) ?_
    clear HF b
    intro b HF
    refine takeF (i := 43) (k := 220) (v := .slice F2 y.f2.length f2) (bt 47 17592186044415) rfl rfl (take_ofW HT_.out HW_.out (by kernel_rfl)) (fun _ _ _ h => h) HF rfl (by decide) (by intro wq hq; have e219 : b.tmps[219]?.getD undef = .pointer (some ⟨(adF.add (k.toNat * 3)).block, (adF.add (k.toNat * 3)).off + 2, none⟩) := HF.at rfl; have c_2 := pw_cell_below hq Hfq2.out; go_simp) HS.out ?_
    clear HF b
    intro b HF
    refine oneF (i := 44) (k := 221) (bt 47 35184372088831) rfl rfl (one_of HT_.out (by kernel_rfl)) HF rfl (by decide) (fun K_ hK_ => ?_)
    have e214 : b.tmps[214]?.getD undef = .slice E2 y.f2.length e2 := HF.at rfl
    have e220 : b.tmps[220]?.getD undef = .slice F2 y.f2.length f2 := HF.at rfl
    go_simp
    clear e214 e220
    refine (sameIns_self _ _ _ _ _ _ (Kd.C_below (Kd.C_below HgE2.out HM3.out.low) HS.out) (Kd.C_below (Kd.C_below HgF2.out HM3.out.low) HS.out)).mono ?_
    rintro e w4 ⟨rfl, hb_⟩
    have HSn := Aside0.mk (HS.out.trans (St.below_mono hb_ HS.out.size))
    clear hb_
    refine hK_.out _ _ HSn.out ?_
    clear hK_ K_ HS
    have HS := HSn
    clear HSn HF b
    intro b HF
    refine pureF (i := 45) (k := 222) (v := .bool true) (bt 47 70368744177663) rfl rfl (any_of HT_.out (by kernel_rfl)) (fun _ _ _ h => h) HF rfl (by decide) (by intro wq; have e208 : b.tmps[208]?.getD undef = .bool true := HF.at rfl; have e221 : b.tmps[221]?.getD undef = .bool true := HF.at rfl; go_simp) ?_
    clear HF b
    intro b HF
    refine pureF (i := 46) (k := 5) (v := .bool true) (bt 47 140737488355327) rfl rfl (any_of HT_.out (by kernel_rfl)) (fun _ _ _ h => h) HF rfl (by decide) (by intro wq; have e222 : b.tmps[222]?.getD undef = .bool true := HF.at rfl; go_simp) ?_
    clear HF b
    intro b HF
    refine done_ (done_of HT_.out (by kernel_rfl)) ?_
    have HM9 := Aside0.mk (HM3.out.step HS.out)
    clear HT_ HW_ HM3 HS HX
    show Code.wp _ _ _ _ _
    refine wp_region_lit ?_
    replace HF := HF.sub [(8, .int .i64 k), (5, .bool true), (3, .pointer (some ⟨w.heap.size + 1, 0, none⟩)), (2, .pointer (some ⟨w.heap.size, 0, none⟩))] (List.forall_mem_cons.2 ⟨rfl, (List.forall_mem_cons.2 ⟨rfl, (List.forall_mem_cons.2 ⟨rfl, (List.forall_mem_cons.2 ⟨rfl, by intro p_ hp_; cases hp_⟩)⟩)⟩)⟩)
    refine listF rfl HF rfl (by decide) (v := .int .i64 k) (by have e8 : b.tmps[8]?.getD undef = .int .i64 k := HF.at rfl; go_simp) ?_
    clear HF b
    intro b HF
    refine listF rfl HF rfl (by decide) (v := .int .i64 (k + 1)) (by have e175 : b.tmps[175]?.getD undef = .int .i64 k := HF.at rfl; go_simp) ?_
    clear HF b
    intro b HF
    refine listF rfl HF rfl (by decide) (v := .int .i64 (k + 1)) (by have e176 : b.tmps[176]?.getD undef = .int .i64 (k + 1) := HF.at rfl; go_simp) ?_
    clear HF b
    intro b HF
    exact ⟨(m.f2.length - (k + 1).toNat : Nat), by omega, k + 1, by omega, by omega, HF.sub _ (List.forall_mem_cons.2 ⟨rfl, (List.forall_mem_cons.2 ⟨rfl, (List.forall_mem_cons.2 ⟨rfl, (List.forall_mem_cons.2 ⟨rfl, by intro p_ hp_; cases hp_⟩)⟩)⟩)⟩), HM9.out⟩
  · have D0 := Aside0.mk (show decide (k < (m.f2.length : Int)) = false from decide_eq_false hlt)
    have XA := Aside0.mk (show wr.cell? ⟨w.heap.size, 2, none⟩ = some (.slice A m.f2.length a) from (HM.out.a.cell 2).trans HA.out)
    refine listF rfl HF rfl (by decide) (v := .int .i64 k) (by have e8 : b.tmps[8]?.getD undef = .int .i64 k := HF.at rfl; go_simp) ?_
    clear HF b
    intro b HF
    refine listF rfl HF rfl (by decide) (v := .pointer (some ⟨w.heap.size, 2, none⟩)) (by have e2 : b.tmps[2]?.getD undef = .pointer (some ⟨w.heap.size, 0, none⟩) := HF.at rfl; go_simp) ?_
    clear HF b
    intro b HF
    refine listF rfl HF rfl (by decide) (v := .slice A m.f2.length a) (by have e171 : b.tmps[171]?.getD undef = .pointer (some ⟨w.heap.size, 2, none⟩) := HF.at rfl; have c_ := XA.out; go_simp) ?_
    clear HF b
    intro b HF
    refine listF rfl HF rfl (by decide) (v := .int .i64 (m.f2.length : Int)) (by have e172 : b.tmps[172]?.getD undef = .slice A m.f2.length a := HF.at rfl; go_simp) ?_
    clear HF b
    intro b HF
    refine listF rfl HF rfl (by decide) (v := .bool false) (by have e170 : b.tmps[170]?.getD undef = .int .i64 k := HF.at rfl; have e173 : b.tmps[173]?.getD undef = .int .i64 (m.f2.length : Int) := HF.at rfl; have d0_ := D0.out; go_simp) ?_
    clear HF b
    intro b HF
    show Code.wp _ _ _ _ _
    refine wp_cond_false (HF.get rfl) ?_
    refine wp_exit ?_
    show K _ _
    exact HKK.out _ _ (HF.sub _ (List.forall_mem_cons.2 ⟨rfl, (List.forall_mem_cons.2 ⟨rfl, (List.forall_mem_cons.2 ⟨rfl, by intro p_ hp_; cases hp_⟩)⟩)⟩)) HM.out
def same.T19 : Bool × List (List Nat × List Nat) := (true, [([], []), ([0], [0]), ([1], [1]), ([2, 1], [1, 2]), ([1], [1]), ([3, 4, 1], [1, 3, 4]), ([5, 1], [1, 5]), ([1], [1]), ([7, 1], [1, 7]), ([1], [1]), ([8, 9, 1], [1, 8, 9]), ([10, 1], [1, 10]), ([6, 11, 1], [1, 6, 11]), ([1, 12], [1, 12]), ([13, 1, 0, 1, 2, 3, 4, 5, 6, 7, 8, 9, 10, 11, 12, 13], [0, 13])])
def same.B19 : List Nat := [0, 1, 3, 7, 3, 31, 63, 3, 131, 3, 899, 1923, 4095, 8191, 16383]
theorem same.tab19 : rtab .any (opsOf Try.f19 19) = same.T19 := by kernel_rfl
theorem same.bits19 : waitsOk same.T19.2 same.B19 = true := by kernel_rfl
set_option maxHeartbeats 4000000 in
set_option maxRecDepth 100000 in
theorem sameL3 {w : World} {m : S61} {ca cb : Array Value} {A C : Option Addr} {a c : Nat} (ga : k38.C w A m.f3.length m.f3) (gc : k38.C w C m.f3.length m.f3) (ha : ca[3]? = some (.slice A m.f3.length a)) (hc : cb[3]? = some (.slice C m.f3.length c))
    {K : Act → World → Prop} {R : Ending → World → Prop} {a1 : Act} {w1 : World} (hF : Fr 464 a1 [(9, .int .i64 0), (5, .bool true), (3, .pointer (some ⟨w.heap.size + 1, 0, none⟩)), (2, .pointer (some ⟨w.heap.size, 0, none⟩))]) (hm : Sm w w1 ca cb)
    (hK : ∀ a' w', Fr 464 a' [(5, .bool true), (3, .pointer (some ⟨w.heap.size + 1, 0, none⟩)), (2, .pointer (some ⟨w.heap.size, 0, none⟩))] → Sm w w' ca cb → K a' w') : (blockOf Try.f19 6).wp Try.prog (Exit.then K (bodyPost Try.prog Try.f19 R)) a1 w1 := by
  have GA := Aside0.mk ga; have GC := Aside0.mk gc; have HA := Aside0.mk ha; have HC := Aside0.mk hc; have HKK := Aside0.mk hK
  clear ga gc ha hc hK
  refine wp_block ?_
  refine wp_loop_ghost (fun q_ b_ w_ => ∃ k : Int, 0 ≤ k ∧ (q_ : Int) + k = m.f3.length ∧ Fr 464 b_ [(9, .int .i64 k), (5, .bool true), (3, .pointer (some ⟨w.heap.size + 1, 0, none⟩)), (2, .pointer (some ⟨w.heap.size, 0, none⟩))] ∧ Sm w w_ ca cb) m.f3.length ⟨0, Int.le_refl _, by omega, hF, hm⟩ ?_
  clear hF hm
  rintro q b wr ⟨k, hk0, hk1, HF, hm⟩
  have HM := Aside0.mk hm
  clear hm
  refine wp_seq ?_
  refine wp_seq ?_
  refine wp_region_lit ?_
  by_cases hlt : k < (m.f3.length : Int)
  · have D0 := Aside0.mk (show decide (k < (m.f3.length : Int)) = true from decide_eq_true hlt)
    have XA := Aside0.mk (show wr.cell? ⟨w.heap.size, 3, none⟩ = some (.slice A m.f3.length a) from (HM.out.a.cell 3).trans HA.out)
    have ew : IntKind.i64.wrap (k + 1) = k + 1 := by have := Kd.C_max GA.out; rw [IntKind.wrap_i64]; omega
    refine listF rfl HF rfl (by decide) (v := .int .i64 k) (by have e9 : b.tmps[9]?.getD undef = .int .i64 k := HF.at rfl; go_simp) ?_
    clear HF b
    intro b HF
    refine listF rfl HF rfl (by decide) (v := .pointer (some ⟨w.heap.size, 3, none⟩)) (by have e2 : b.tmps[2]?.getD undef = .pointer (some ⟨w.heap.size, 0, none⟩) := HF.at rfl; go_simp) ?_
    clear HF b
    intro b HF
    refine listF rfl HF rfl (by decide) (v := .slice A m.f3.length a) (by have e224 : b.tmps[224]?.getD undef = .pointer (some ⟨w.heap.size, 3, none⟩) := HF.at rfl; have c_ := XA.out; go_simp) ?_
    clear HF b
    intro b HF
    refine listF rfl HF rfl (by decide) (v := .int .i64 (m.f3.length : Int)) (by have e225 : b.tmps[225]?.getD undef = .slice A m.f3.length a := HF.at rfl; go_simp) ?_
    clear HF b
    intro b HF
    refine listF rfl HF rfl (by decide) (v := .bool true) (by have e223 : b.tmps[223]?.getD undef = .int .i64 k := HF.at rfl; have e226 : b.tmps[226]?.getD undef = .int .i64 (m.f3.length : Int) := HF.at rfl; have d0_ := D0.out; go_simp) ?_
    clear HF b
    intro b HF
    show Code.wp _ _ _ _ _
    refine wp_cond_true (HF.get rfl) ?_
    refine wp_skip ?_
    show Code.wp _ _ _ _ _
    refine wp_seq ?_
    refine wp_block ?_
    replace HF := HF.sub [(9, .int .i64 k), (5, .bool true), (3, .pointer (some ⟨w.heap.size + 1, 0, none⟩)), (2, .pointer (some ⟨w.heap.size, 0, none⟩))] (List.forall_mem_cons.2 ⟨rfl, (List.forall_mem_cons.2 ⟨rfl, (List.forall_mem_cons.2 ⟨rfl, (List.forall_mem_cons.2 ⟨rfl, by intro p_ hp_; cases hp_⟩)⟩)⟩)⟩)
    clear XA
    obtain ⟨adE, eA, eq0, eq1, eq2⟩ := at_T38 GA.out k hk0 hlt
    cases eA
    obtain ⟨adF, eA, fq0, fq1, fq2⟩ := at_T38 GC.out k hk0 hlt
    cases eA
    generalize rd_T38 m.f3 k = y at *
    obtain ⟨w3, hw3⟩ : ∃ w3, w3 = wr.drew := ⟨_, rfl⟩
    have HM3 := Aside0.mk (show Sm w w3 ca cb by rw [hw3]; exact HM.out.step (Below.refl _ wr).drew)
    refine start_ (n := 15) (S := fun w' => Below w3.heap.size w3 w') (ds := []) (bt 15 0) (by kernel_rfl) rfl (by kernel_rfl) (by rw [hw3]; exact Below.refl _ _) (fun hHeld => ?_)
    refine with_tabW same.tab19 same.bits19 (fun HT_ HW_ => ?_)
    clear hHeld
    rw [← hw3]
    clear hw3 HM
    have HS := Aside0.mk (Below.refl w3.heap.size w3)
    have HX := Aside0.mk (And.intro (show w3.cell? ⟨w.heap.size, 3, none⟩ = some (.slice (some adE) m.f3.length a) from (HM3.out.a.cell 3).trans HA.out) (show w3.cell? ⟨w.heap.size + 1, 3, none⟩ = some (.slice (some adF) m.f3.length c) from (HM3.out.b.cell 3).trans HC.out))
    have Heq0 := Aside0.mk ((HM3.out.low.cell (World.block_lt_of_cell? w _ eq0)).trans eq0); clear eq0
    have Heq1 := Aside0.mk ((HM3.out.low.cell (World.block_lt_of_cell? w _ eq1)).trans eq1); clear eq1
    have Heq2 := Aside0.mk ((HM3.out.low.cell (World.block_lt_of_cell? w _ eq2)).trans eq2); clear eq2
    have Hfq0 := Aside0.mk ((HM3.out.low.cell (World.block_lt_of_cell? w _ fq0)).trans fq0); clear fq0
    have Hfq1 := Aside0.mk ((HM3.out.low.cell (World.block_lt_of_cell? w _ fq1)).trans fq1); clear fq1
    have Hfq2 := Aside0.mk ((HM3.out.low.cell (World.block_lt_of_cell? w _ fq2)).trans fq2); clear fq2
    have J0 : (0 : Int) ≤ k := hk0
    have J1 : k < (m.f3.length : Int) := hlt
    have d1_ : decide (0 ≤ k) = true := decide_eq_true hk0
    have d2_ : decide (k < (m.f3.length : Int)) = true := decide_eq_true hlt
    refine pureF (i := 0) (k := 230) (v := .bool true) (bt 15 1) rfl rfl (any_of HT_.out (by kernel_rfl)) (fun _ _ _ h => h) HF rfl (by decide) (by intro wq; have e5 : b.tmps[5]?.getD undef = .bool true := HF.at rfl; go_simp) ?_
    clear HF b
    intro b HF
    refine pureF (i := 1) (k := 231) (v := .bool true) (bt 15 3) rfl rfl (any_of HT_.out (by kernel_rfl)) (fun _ _ _ h => h) HF rfl (by decide) (by intro wq; have e230 : b.tmps[230]?.getD undef = .bool true := HF.at rfl; go_simp) ?_
    clear HF b
    intro b HF
    refine pureF (i := 2) (k := 232) (v := .pointer (some ⟨w.heap.size, 3, none⟩)) (bt 15 7) rfl rfl (any_of HT_.out (by kernel_rfl)) (fun _ _ _ h => h) HF rfl (by decide) (by intro wq; have e2 : b.tmps[2]?.getD undef = .pointer (some ⟨w.heap.size, 0, none⟩) := HF.at rfl; go_simp) ?_
    clear HF b
    intro b HF
    refine takeF (i := 3) (k := 233) (v := .slice (some adE) m.f3.length a) (bt 15 15) rfl rfl (take_ofW HT_.out HW_.out (by kernel_rfl)) (fun _ _ _ h => h) HF rfl (by decide) (by intro wq hq; have e232 : b.tmps[232]?.getD undef = .pointer (some ⟨w.heap.size, 3, none⟩) := HF.at rfl; have c_ := pw_cell_below hq HX.out.1; go_simp) HS.out ?_
    clear HF b
    intro b HF
    refine pureF (i := 4) (k := 234) (v := .int .i64 k) (bt 15 31) rfl rfl (any_of HT_.out (by kernel_rfl)) (fun _ _ _ h => h) HF rfl (by decide) (by intro wq; have e9 : b.tmps[9]?.getD undef = .int .i64 k := HF.at rfl; go_simp) ?_
    clear HF b
    intro b HF
    refine pureF (i := 5) (k := 235) (v := .pointer (some (adE.add (k.toNat * 3)))) (bt 15 63) rfl rfl (any_of HT_.out (by kernel_rfl)) (fun _ _ _ h => h) HF rfl (by decide) (by intro wq; have e233 : b.tmps[233]?.getD undef = .slice (some adE) m.f3.length a := HF.at rfl; have e234 : b.tmps[234]?.getD undef = .int .i64 k := HF.at rfl; go_simp) ?_
    clear HF b
    intro b HF
    refine takeF (i := 6) (k := 236) (v := .agg #[.int .i64 y.f0, .int .i64 y.f1, .bool y.f2]) (bt 15 127) rfl rfl (take_ofW HT_.out HW_.out (by kernel_rfl)) (fun _ _ _ h => h) HF rfl (by decide) (by intro wq hq; have e235 : b.tmps[235]?.getD undef = .pointer (some (adE.add (k.toNat * 3))) := HF.at rfl; have c_0 := pw_cell_below hq Heq0.out; have c_1 := pw_cell_below hq Heq1.out; have c_2 := pw_cell_below hq Heq2.out; go_simp) HS.out ?_
    clear HF b
    intro b HF
    refine pureF (i := 7) (k := 237) (v := .pointer (some ⟨w.heap.size + 1, 3, none⟩)) (bt 15 255) rfl rfl (any_of HT_.out (by kernel_rfl)) (fun _ _ _ h => h) HF rfl (by decide) (by intro wq; have e3 : b.tmps[3]?.getD undef = .pointer (some ⟨w.heap.size + 1, 0, none⟩) := HF.at rfl; go_simp) ?_
    clear HF b
    intro b HF
    refine takeF (i := 8) (k := 238) (v := .slice (some adF) m.f3.length c) (bt 15 511) rfl rfl (take_ofW HT_.out HW_.out (by kernel_rfl)) (fun _ _ _ h => h) HF rfl (by decide) (by intro wq hq; have e237 : b.tmps[237]?.getD undef = .pointer (some ⟨w.heap.size + 1, 3, none⟩) := HF.at rfl; have c_ := pw_cell_below hq HX.out.2; go_simp) HS.out ?_
    clear HF b
    intro b HF
    refine pureF (i := 9) (k := 239) (v := .int .i64 k) (bt 15 1023) rfl rfl (any_of HT_.out (by kernel_rfl)) (fun _ _ _ h => h) HF rfl (by decide) (by intro wq; have e9 : b.tmps[9]?.getD undef = .int .i64 k := HF.at rfl; go_simp) ?_
    clear HF b
    intro b HF
    refine pureF (i := 10) (k := 240) (v := .pointer (some (adF.add (k.toNat * 3)))) (bt 15 2047) rfl rfl (any_of HT_.out (by kernel_rfl)) (fun _ _ _ h => h) HF rfl (by decide) (by intro wq; have e238 : b.tmps[238]?.getD undef = .slice (some adF) m.f3.length c := HF.at rfl; have e239 : b.tmps[239]?.getD undef = .int .i64 k := HF.at rfl; go_simp) ?_
    clear HF b
    intro b HF
    refine takeF (i := 11) (k := 241) (v := .agg #[.int .i64 y.f0, .int .i64 y.f1, .bool y.f2]) (bt 15 4095) rfl rfl (take_ofW HT_.out HW_.out (by kernel_rfl)) (fun _ _ _ h => h) HF rfl (by decide) (by intro wq hq; have e240 : b.tmps[240]?.getD undef = .pointer (some (adF.add (k.toNat * 3))) := HF.at rfl; have c_0 := pw_cell_below hq Hfq0.out; have c_1 := pw_cell_below hq Hfq1.out; have c_2 := pw_cell_below hq Hfq2.out; go_simp) HS.out ?_
    clear HF b
    intro b HF
    refine pureF (i := 12) (k := 242) (v := .bool true) (bt 15 8191) rfl rfl (any_of HT_.out (by kernel_rfl)) (fun _ _ _ h => h) HF rfl (by decide) (by intro wq; have e236 : b.tmps[236]?.getD undef = .agg #[.int .i64 y.f0, .int .i64 y.f1, .bool y.f2] := HF.at rfl; have e241 : b.tmps[241]?.getD undef = .agg #[.int .i64 y.f0, .int .i64 y.f1, .bool y.f2] := HF.at rfl; go_simp) ?_
    clear HF b
    intro b HF
    refine pureF (i := 13) (k := 243) (v := .bool true) (bt 15 16383) rfl rfl (any_of HT_.out (by kernel_rfl)) (fun _ _ _ h => h) HF rfl (by decide) (by intro wq; have e231 : b.tmps[231]?.getD undef = .bool true := HF.at rfl; have e242 : b.tmps[242]?.getD undef = .bool true := HF.at rfl; go_simp) ?_
    clear HF b
    intro b HF
    refine pureF (i := 14) (k := 5) (v := .bool true) (bt 15 32767) rfl rfl (any_of HT_.out (by kernel_rfl)) (fun _ _ _ h => h) HF rfl (by decide) (by intro wq; have e243 : b.tmps[243]?.getD undef = .bool true := HF.at rfl; go_simp) ?_
    clear HF b
    intro b HF
    refine done_ (done_of HT_.out (by kernel_rfl)) ?_
    have HM9 := Aside0.mk (HM3.out.step HS.out)
    clear HT_ HW_ HM3 HS HX
    show Code.wp _ _ _ _ _
    refine wp_region_lit ?_
    replace HF := HF.sub [(9, .int .i64 k), (5, .bool true), (3, .pointer (some ⟨w.heap.size + 1, 0, none⟩)), (2, .pointer (some ⟨w.heap.size, 0, none⟩))] (List.forall_mem_cons.2 ⟨rfl, (List.forall_mem_cons.2 ⟨rfl, (List.forall_mem_cons.2 ⟨rfl, (List.forall_mem_cons.2 ⟨rfl, by intro p_ hp_; cases hp_⟩)⟩)⟩)⟩)
    refine listF rfl HF rfl (by decide) (v := .int .i64 k) (by have e9 : b.tmps[9]?.getD undef = .int .i64 k := HF.at rfl; go_simp) ?_
    clear HF b
    intro b HF
    refine listF rfl HF rfl (by decide) (v := .int .i64 (k + 1)) (by have e228 : b.tmps[228]?.getD undef = .int .i64 k := HF.at rfl; go_simp) ?_
    clear HF b
    intro b HF
    refine listF rfl HF rfl (by decide) (v := .int .i64 (k + 1)) (by have e229 : b.tmps[229]?.getD undef = .int .i64 (k + 1) := HF.at rfl; go_simp) ?_
    clear HF b
    intro b HF
    exact ⟨(m.f3.length - (k + 1).toNat : Nat), by omega, k + 1, by omega, by omega, HF.sub _ (List.forall_mem_cons.2 ⟨rfl, (List.forall_mem_cons.2 ⟨rfl, (List.forall_mem_cons.2 ⟨rfl, (List.forall_mem_cons.2 ⟨rfl, by intro p_ hp_; cases hp_⟩)⟩)⟩)⟩), HM9.out⟩
  · have D0 := Aside0.mk (show decide (k < (m.f3.length : Int)) = false from decide_eq_false hlt)
    have XA := Aside0.mk (show wr.cell? ⟨w.heap.size, 3, none⟩ = some (.slice A m.f3.length a) from (HM.out.a.cell 3).trans HA.out)
    refine listF rfl HF rfl (by decide) (v := .int .i64 k) (by have e9 : b.tmps[9]?.getD undef = .int .i64 k := HF.at rfl; go_simp) ?_
    clear HF b
    intro b HF
    refine listF rfl HF rfl (by decide) (v := .pointer (some ⟨w.heap.size, 3, none⟩)) (by have e2 : b.tmps[2]?.getD undef = .pointer (some ⟨w.heap.size, 0, none⟩) := HF.at rfl; go_simp) ?_
    clear HF b
    intro b HF
    refine listF rfl HF rfl (by decide) (v := .slice A m.f3.length a) (by have e224 : b.tmps[224]?.getD undef = .pointer (some ⟨w.heap.size, 3, none⟩) := HF.at rfl; have c_ := XA.out; go_simp) ?_
    clear HF b
    intro b HF
    refine listF rfl HF rfl (by decide) (v := .int .i64 (m.f3.length : Int)) (by have e225 : b.tmps[225]?.getD undef = .slice A m.f3.length a := HF.at rfl; go_simp) ?_
    clear HF b
    intro b HF
    refine listF rfl HF rfl (by decide) (v := .bool false) (by have e223 : b.tmps[223]?.getD undef = .int .i64 k := HF.at rfl; have e226 : b.tmps[226]?.getD undef = .int .i64 (m.f3.length : Int) := HF.at rfl; have d0_ := D0.out; go_simp) ?_
    clear HF b
    intro b HF
    show Code.wp _ _ _ _ _
    refine wp_cond_false (HF.get rfl) ?_
    refine wp_exit ?_
    show K _ _
    exact HKK.out _ _ (HF.sub _ (List.forall_mem_cons.2 ⟨rfl, (List.forall_mem_cons.2 ⟨rfl, (List.forall_mem_cons.2 ⟨rfl, by intro p_ hp_; cases hp_⟩)⟩)⟩)) HM.out
def same.T23 : Bool × List (List Nat × List Nat) := (true, [([], []), ([0], [0]), ([1], [1]), ([2, 1], [1, 2]), ([1], [1]), ([3, 4, 1], [1, 3, 4]), ([5, 1], [1, 5]), ([1], [1]), ([7, 1], [1, 7]), ([1], [1]), ([8, 9, 1], [1, 8, 9]), ([10, 1], [1, 10]), ([6, 11, 1], [1, 6, 11]), ([1, 12], [1, 12]), ([13, 1, 0, 1, 2, 3, 4, 5, 6, 7, 8, 9, 10, 11, 12, 13], [0, 13])])
def same.B23 : List Nat := [0, 1, 3, 7, 3, 31, 63, 3, 131, 3, 899, 1923, 4095, 8191, 16383]
theorem same.tab23 : rtab .any (opsOf Try.f19 23) = same.T23 := by kernel_rfl
theorem same.bits23 : waitsOk same.T23.2 same.B23 = true := by kernel_rfl
set_option maxHeartbeats 4000000 in
set_option maxRecDepth 100000 in
theorem sameL4 {w : World} {m : S61} {ca cb : Array Value} {A C : Option Addr} {a c : Nat} (ga : k38.C w A m.f4.length m.f4) (gc : k38.C w C m.f4.length m.f4) (ha : ca[4]? = some (.slice A m.f4.length a)) (hc : cb[4]? = some (.slice C m.f4.length c))
    {K : Act → World → Prop} {R : Ending → World → Prop} {a1 : Act} {w1 : World} (hF : Fr 464 a1 [(10, .int .i64 0), (5, .bool true), (3, .pointer (some ⟨w.heap.size + 1, 0, none⟩)), (2, .pointer (some ⟨w.heap.size, 0, none⟩))]) (hm : Sm w w1 ca cb)
    (hK : ∀ a' w', Fr 464 a' [(5, .bool true), (3, .pointer (some ⟨w.heap.size + 1, 0, none⟩)), (2, .pointer (some ⟨w.heap.size, 0, none⟩))] → Sm w w' ca cb → K a' w') : (blockOf Try.f19 8).wp Try.prog (Exit.then K (bodyPost Try.prog Try.f19 R)) a1 w1 := by
  have GA := Aside0.mk ga; have GC := Aside0.mk gc; have HA := Aside0.mk ha; have HC := Aside0.mk hc; have HKK := Aside0.mk hK
  clear ga gc ha hc hK
  refine wp_block ?_
  refine wp_loop_ghost (fun q_ b_ w_ => ∃ k : Int, 0 ≤ k ∧ (q_ : Int) + k = m.f4.length ∧ Fr 464 b_ [(10, .int .i64 k), (5, .bool true), (3, .pointer (some ⟨w.heap.size + 1, 0, none⟩)), (2, .pointer (some ⟨w.heap.size, 0, none⟩))] ∧ Sm w w_ ca cb) m.f4.length ⟨0, Int.le_refl _, by omega, hF, hm⟩ ?_
  clear hF hm
  rintro q b wr ⟨k, hk0, hk1, HF, hm⟩
  have HM := Aside0.mk hm
  clear hm
  refine wp_seq ?_
  refine wp_seq ?_
  refine wp_region_lit ?_
  by_cases hlt : k < (m.f4.length : Int)
  · have D0 := Aside0.mk (show decide (k < (m.f4.length : Int)) = true from decide_eq_true hlt)
    have XA := Aside0.mk (show wr.cell? ⟨w.heap.size, 4, none⟩ = some (.slice A m.f4.length a) from (HM.out.a.cell 4).trans HA.out)
    have ew : IntKind.i64.wrap (k + 1) = k + 1 := by have := Kd.C_max GA.out; rw [IntKind.wrap_i64]; omega
    refine listF rfl HF rfl (by decide) (v := .int .i64 k) (by have e10 : b.tmps[10]?.getD undef = .int .i64 k := HF.at rfl; go_simp) ?_
    clear HF b
    intro b HF
    refine listF rfl HF rfl (by decide) (v := .pointer (some ⟨w.heap.size, 4, none⟩)) (by have e2 : b.tmps[2]?.getD undef = .pointer (some ⟨w.heap.size, 0, none⟩) := HF.at rfl; go_simp) ?_
    clear HF b
    intro b HF
    refine listF rfl HF rfl (by decide) (v := .slice A m.f4.length a) (by have e245 : b.tmps[245]?.getD undef = .pointer (some ⟨w.heap.size, 4, none⟩) := HF.at rfl; have c_ := XA.out; go_simp) ?_
    clear HF b
    intro b HF
    refine listF rfl HF rfl (by decide) (v := .int .i64 (m.f4.length : Int)) (by have e246 : b.tmps[246]?.getD undef = .slice A m.f4.length a := HF.at rfl; go_simp) ?_
    clear HF b
    intro b HF
    refine listF rfl HF rfl (by decide) (v := .bool true) (by have e244 : b.tmps[244]?.getD undef = .int .i64 k := HF.at rfl; have e247 : b.tmps[247]?.getD undef = .int .i64 (m.f4.length : Int) := HF.at rfl; have d0_ := D0.out; go_simp) ?_
    clear HF b
    intro b HF
    show Code.wp _ _ _ _ _
    refine wp_cond_true (HF.get rfl) ?_
    refine wp_skip ?_
    show Code.wp _ _ _ _ _
    refine wp_seq ?_
    refine wp_block ?_
    replace HF := HF.sub [(10, .int .i64 k), (5, .bool true), (3, .pointer (some ⟨w.heap.size + 1, 0, none⟩)), (2, .pointer (some ⟨w.heap.size, 0, none⟩))] (List.forall_mem_cons.2 ⟨rfl, (List.forall_mem_cons.2 ⟨rfl, (List.forall_mem_cons.2 ⟨rfl, (List.forall_mem_cons.2 ⟨rfl, by intro p_ hp_; cases hp_⟩)⟩)⟩)⟩)
    clear XA
    obtain ⟨adE, eA, eq0, eq1, eq2⟩ := at_T38 GA.out k hk0 hlt
    cases eA
    obtain ⟨adF, eA, fq0, fq1, fq2⟩ := at_T38 GC.out k hk0 hlt
    cases eA
    generalize rd_T38 m.f4 k = y at *
    obtain ⟨w3, hw3⟩ : ∃ w3, w3 = wr.drew := ⟨_, rfl⟩
    have HM3 := Aside0.mk (show Sm w w3 ca cb by rw [hw3]; exact HM.out.step (Below.refl _ wr).drew)
    refine start_ (n := 15) (S := fun w' => Below w3.heap.size w3 w') (ds := []) (bt 15 0) (by kernel_rfl) rfl (by kernel_rfl) (by rw [hw3]; exact Below.refl _ _) (fun hHeld => ?_)
    refine with_tabW same.tab23 same.bits23 (fun HT_ HW_ => ?_)
    clear hHeld
    rw [← hw3]
    clear hw3 HM
    have HS := Aside0.mk (Below.refl w3.heap.size w3)
    have HX := Aside0.mk (And.intro (show w3.cell? ⟨w.heap.size, 4, none⟩ = some (.slice (some adE) m.f4.length a) from (HM3.out.a.cell 4).trans HA.out) (show w3.cell? ⟨w.heap.size + 1, 4, none⟩ = some (.slice (some adF) m.f4.length c) from (HM3.out.b.cell 4).trans HC.out))
    have Heq0 := Aside0.mk ((HM3.out.low.cell (World.block_lt_of_cell? w _ eq0)).trans eq0); clear eq0
    have Heq1 := Aside0.mk ((HM3.out.low.cell (World.block_lt_of_cell? w _ eq1)).trans eq1); clear eq1
    have Heq2 := Aside0.mk ((HM3.out.low.cell (World.block_lt_of_cell? w _ eq2)).trans eq2); clear eq2
    have Hfq0 := Aside0.mk ((HM3.out.low.cell (World.block_lt_of_cell? w _ fq0)).trans fq0); clear fq0
    have Hfq1 := Aside0.mk ((HM3.out.low.cell (World.block_lt_of_cell? w _ fq1)).trans fq1); clear fq1
    have Hfq2 := Aside0.mk ((HM3.out.low.cell (World.block_lt_of_cell? w _ fq2)).trans fq2); clear fq2
    have J0 : (0 : Int) ≤ k := hk0
    have J1 : k < (m.f4.length : Int) := hlt
    have d1_ : decide (0 ≤ k) = true := decide_eq_true hk0
    have d2_ : decide (k < (m.f4.length : Int)) = true := decide_eq_true hlt
    refine pureF (i := 0) (k := 251) (v := .bool true) (bt 15 1) rfl rfl (any_of HT_.out (by kernel_rfl)) (fun _ _ _ h => h) HF rfl (by decide) (by intro wq; have e5 : b.tmps[5]?.getD undef = .bool true := HF.at rfl; go_simp) ?_
    clear HF b
    intro b HF
    refine pureF (i := 1) (k := 252) (v := .bool true) (bt 15 3) rfl rfl (any_of HT_.out (by kernel_rfl)) (fun _ _ _ h => h) HF rfl (by decide) (by intro wq; have e251 : b.tmps[251]?.getD undef = .bool true := HF.at rfl; go_simp) ?_
    clear HF b
    intro b HF
    refine pureF (i := 2) (k := 253) (v := .pointer (some ⟨w.heap.size, 4, none⟩)) (bt 15 7) rfl rfl (any_of HT_.out (by kernel_rfl)) (fun _ _ _ h => h) HF rfl (by decide) (by intro wq; have e2 : b.tmps[2]?.getD undef = .pointer (some ⟨w.heap.size, 0, none⟩) := HF.at rfl; go_simp) ?_
    clear HF b
    intro b HF
    refine takeF (i := 3) (k := 254) (v := .slice (some adE) m.f4.length a) (bt 15 15) rfl rfl (take_ofW HT_.out HW_.out (by kernel_rfl)) (fun _ _ _ h => h) HF rfl (by decide) (by intro wq hq; have e253 : b.tmps[253]?.getD undef = .pointer (some ⟨w.heap.size, 4, none⟩) := HF.at rfl; have c_ := pw_cell_below hq HX.out.1; go_simp) HS.out ?_
    clear HF b
    intro b HF
    refine pureF (i := 4) (k := 255) (v := .int .i64 k) (bt 15 31) rfl rfl (any_of HT_.out (by kernel_rfl)) (fun _ _ _ h => h) HF rfl (by decide) (by intro wq; have e10 : b.tmps[10]?.getD undef = .int .i64 k := HF.at rfl; go_simp) ?_
    clear HF b
    intro b HF
    refine pureF (i := 5) (k := 256) (v := .pointer (some (adE.add (k.toNat * 3)))) (bt 15 63) rfl rfl (any_of HT_.out (by kernel_rfl)) (fun _ _ _ h => h) HF rfl (by decide) (by intro wq; have e254 : b.tmps[254]?.getD undef = .slice (some adE) m.f4.length a := HF.at rfl; have e255 : b.tmps[255]?.getD undef = .int .i64 k := HF.at rfl; go_simp) ?_
    clear HF b
    intro b HF
    refine takeF (i := 6) (k := 257) (v := .agg #[.int .i64 y.f0, .int .i64 y.f1, .bool y.f2]) (bt 15 127) rfl rfl (take_ofW HT_.out HW_.out (by kernel_rfl)) (fun _ _ _ h => h) HF rfl (by decide) (by intro wq hq; have e256 : b.tmps[256]?.getD undef = .pointer (some (adE.add (k.toNat * 3))) := HF.at rfl; have c_0 := pw_cell_below hq Heq0.out; have c_1 := pw_cell_below hq Heq1.out; have c_2 := pw_cell_below hq Heq2.out; go_simp) HS.out ?_
    clear HF b
    intro b HF
    refine pureF (i := 7) (k := 258) (v := .pointer (some ⟨w.heap.size + 1, 4, none⟩)) (bt 15 255) rfl rfl (any_of HT_.out (by kernel_rfl)) (fun _ _ _ h => h) HF rfl (by decide) (by intro wq; have e3 : b.tmps[3]?.getD undef = .pointer (some ⟨w.heap.size + 1, 0, none⟩) := HF.at rfl; go_simp) ?_
    clear HF b
    intro b HF
    refine takeF (i := 8) (k := 259) (v := .slice (some adF) m.f4.length c) (bt 15 511) rfl rfl (take_ofW HT_.out HW_.out (by kernel_rfl)) (fun _ _ _ h => h) HF rfl (by decide) (by intro wq hq; have e258 : b.tmps[258]?.getD undef = .pointer (some ⟨w.heap.size + 1, 4, none⟩) := HF.at rfl; have c_ := pw_cell_below hq HX.out.2; go_simp) HS.out ?_
    clear HF b
    intro b HF
    refine pureF (i := 9) (k := 260) (v := .int .i64 k) (bt 15 1023) rfl rfl (any_of HT_.out (by kernel_rfl)) (fun _ _ _ h => h) HF rfl (by decide) (by intro wq; have e10 : b.tmps[10]?.getD undef = .int .i64 k := HF.at rfl; go_simp) ?_
    clear HF b
    intro b HF
    refine pureF (i := 10) (k := 261) (v := .pointer (some (adF.add (k.toNat * 3)))) (bt 15 2047) rfl rfl (any_of HT_.out (by kernel_rfl)) (fun _ _ _ h => h) HF rfl (by decide) (by intro wq; have e259 : b.tmps[259]?.getD undef = .slice (some adF) m.f4.length c := HF.at rfl; have e260 : b.tmps[260]?.getD undef = .int .i64 k := HF.at rfl; go_simp) ?_
    clear HF b
    intro b HF
    refine takeF (i := 11) (k := 262) (v := .agg #[.int .i64 y.f0, .int .i64 y.f1, .bool y.f2]) (bt 15 4095) rfl rfl (take_ofW HT_.out HW_.out (by kernel_rfl)) (fun _ _ _ h => h) HF rfl (by decide) (by intro wq hq; have e261 : b.tmps[261]?.getD undef = .pointer (some (adF.add (k.toNat * 3))) := HF.at rfl; have c_0 := pw_cell_below hq Hfq0.out; have c_1 := pw_cell_below hq Hfq1.out; have c_2 := pw_cell_below hq Hfq2.out; go_simp) HS.out ?_
    clear HF b
    intro b HF
    refine pureF (i := 12) (k := 263) (v := .bool true) (bt 15 8191) rfl rfl (any_of HT_.out (by kernel_rfl)) (fun _ _ _ h => h) HF rfl (by decide) (by intro wq; have e257 : b.tmps[257]?.getD undef = .agg #[.int .i64 y.f0, .int .i64 y.f1, .bool y.f2] := HF.at rfl; have e262 : b.tmps[262]?.getD undef = .agg #[.int .i64 y.f0, .int .i64 y.f1, .bool y.f2] := HF.at rfl; go_simp) ?_
    clear HF b
    intro b HF
    refine pureF (i := 13) (k := 264) (v := .bool true) (bt 15 16383) rfl rfl (any_of HT_.out (by kernel_rfl)) (fun _ _ _ h => h) HF rfl (by decide) (by intro wq; have e252 : b.tmps[252]?.getD undef = .bool true := HF.at rfl; have e263 : b.tmps[263]?.getD undef = .bool true := HF.at rfl; go_simp) ?_
    clear HF b
    intro b HF
    refine pureF (i := 14) (k := 5) (v := .bool true) (bt 15 32767) rfl rfl (any_of HT_.out (by kernel_rfl)) (fun _ _ _ h => h) HF rfl (by decide) (by intro wq; have e264 : b.tmps[264]?.getD undef = .bool true := HF.at rfl; go_simp) ?_
    clear HF b
    intro b HF
    refine done_ (done_of HT_.out (by kernel_rfl)) ?_
    have HM9 := Aside0.mk (HM3.out.step HS.out)
    clear HT_ HW_ HM3 HS HX
    show Code.wp _ _ _ _ _
    refine wp_region_lit ?_
    replace HF := HF.sub [(10, .int .i64 k), (5, .bool true), (3, .pointer (some ⟨w.heap.size + 1, 0, none⟩)), (2, .pointer (some ⟨w.heap.size, 0, none⟩))] (List.forall_mem_cons.2 ⟨rfl, (List.forall_mem_cons.2 ⟨rfl, (List.forall_mem_cons.2 ⟨rfl, (List.forall_mem_cons.2 ⟨rfl, by intro p_ hp_; cases hp_⟩)⟩)⟩)⟩)
    refine listF rfl HF rfl (by decide) (v := .int .i64 k) (by have e10 : b.tmps[10]?.getD undef = .int .i64 k := HF.at rfl; go_simp) ?_
    clear HF b
    intro b HF
    refine listF rfl HF rfl (by decide) (v := .int .i64 (k + 1)) (by have e249 : b.tmps[249]?.getD undef = .int .i64 k := HF.at rfl; go_simp) ?_
    clear HF b
    intro b HF
    refine listF rfl HF rfl (by decide) (v := .int .i64 (k + 1)) (by have e250 : b.tmps[250]?.getD undef = .int .i64 (k + 1) := HF.at rfl; go_simp) ?_
    clear HF b
    intro b HF
    exact ⟨(m.f4.length - (k + 1).toNat : Nat), by omega, k + 1, by omega, by omega, HF.sub _ (List.forall_mem_cons.2 ⟨rfl, (List.forall_mem_cons.2 ⟨rfl, (List.forall_mem_cons.2 ⟨rfl, (List.forall_mem_cons.2 ⟨rfl, by intro p_ hp_; cases hp_⟩)⟩)⟩)⟩), HM9.out⟩
  · have D0 := Aside0.mk (show decide (k < (m.f4.length : Int)) = false from decide_eq_false hlt)
    have XA := Aside0.mk (show wr.cell? ⟨w.heap.size, 4, none⟩ = some (.slice A m.f4.length a) from (HM.out.a.cell 4).trans HA.out)
    refine listF rfl HF rfl (by decide) (v := .int .i64 k) (by have e10 : b.tmps[10]?.getD undef = .int .i64 k := HF.at rfl; go_simp) ?_
    clear HF b
    intro b HF
    refine listF rfl HF rfl (by decide) (v := .pointer (some ⟨w.heap.size, 4, none⟩)) (by have e2 : b.tmps[2]?.getD undef = .pointer (some ⟨w.heap.size, 0, none⟩) := HF.at rfl; go_simp) ?_
    clear HF b
    intro b HF
    refine listF rfl HF rfl (by decide) (v := .slice A m.f4.length a) (by have e245 : b.tmps[245]?.getD undef = .pointer (some ⟨w.heap.size, 4, none⟩) := HF.at rfl; have c_ := XA.out; go_simp) ?_
    clear HF b
    intro b HF
    refine listF rfl HF rfl (by decide) (v := .int .i64 (m.f4.length : Int)) (by have e246 : b.tmps[246]?.getD undef = .slice A m.f4.length a := HF.at rfl; go_simp) ?_
    clear HF b
    intro b HF
    refine listF rfl HF rfl (by decide) (v := .bool false) (by have e244 : b.tmps[244]?.getD undef = .int .i64 k := HF.at rfl; have e247 : b.tmps[247]?.getD undef = .int .i64 (m.f4.length : Int) := HF.at rfl; have d0_ := D0.out; go_simp) ?_
    clear HF b
    intro b HF
    show Code.wp _ _ _ _ _
    refine wp_cond_false (HF.get rfl) ?_
    refine wp_exit ?_
    show K _ _
    exact HKK.out _ _ (HF.sub _ (List.forall_mem_cons.2 ⟨rfl, (List.forall_mem_cons.2 ⟨rfl, (List.forall_mem_cons.2 ⟨rfl, by intro p_ hp_; cases hp_⟩)⟩)⟩)) HM.out
end Go.Proofs.Ytbelijoggbblgaa.Ex
