/- AddInstance of a store that has no instance: it has one, a copy. Printed by the program mkex11.py. -/
import Derived.Test.YtbelijoggbblgaaFw1
namespace Go.Proofs.Ytbelijoggbblgaa.Ex
open Go.RowKit Go.Proofs.YtbelijoggbblgaaW.PrintWords Go.Proofs.YtbelijoggbblgaaW.PrintLast Go.Proofs.Ytbelijoggbblgaa.RStoreExports Go.Proofs.Ytbelijoggbblgaa.Man
set_option linter.unusedVariables false
set_option linter.unusedSimpArgs false
theorem lookup_two {x y : Value} : ([(1, y), (0, x)] : List (Nat × Value)).lookup 0 = some x := rfl
def addInst.T1 : Bool × List (List Nat × List Nat) := (true, [([], []), ([], []), ([1], [1]), ([2], [2]), ([3], [3]), ([], []), ([5], [5]), ([6], [6]), ([4, 7, 6], [4, 7]), ([0, 0, 1, 2, 3, 4, 5, 6, 7, 8], [0]), ([9, 0, 1, 2, 3, 4, 5, 6, 7, 8], [9]), ([10, 8, 8, 0, 1, 2, 3, 4, 5, 6, 7, 8], [8, 10])])
def addInst.B1 : List Nat := [0, 0, 2, 6, 14, 0, 32, 96, 254, 511, 1023, 2047]
theorem addInst.tab1 : rtab .any (opsOf Try.f16 1) = addInst.T1 := by kernel_rfl
theorem addInst.bits1 : waitsOk addInst.T1.2 addInst.B1 = true := by kernel_rfl
set_option maxHeartbeats 2000000 in
set_option maxRecDepth 100000 in
theorem addInst_calls {n : Nat} {w : World} {s : Nat} {x : S64} {cs : List Value} (hs : Row w s 90 #[.slice none 0 0, .slice none 0 0, .slice none 0 0, .slice none 0 0, .slice none 0 0]) (h : k64.K w x cs) (hb : Bi n x) :
    Calls Try.prog 16 #[.pointer (some ⟨s, 0, none⟩), .agg cs.toArray] w fun e w' => e = .returned (.int .i64 0) ∧ ∃ U e_, Row w' s 90 #[.slice none 0 0, .slice none 0 0, .slice none 0 0, .slice none 0 0, .slice U 1 e_] ∧ k64.R 64 w' w.heap.size (fun _ => True) (.slice U 1 e_) [x] ∧ St.Only w w' (fun k => k = s) := by
  obtain ⟨A0, c0, A1, c1, A2, c2, A3, c3, A4, c4, A5, c5, A6, c6, A8, c8, A9, c9, A10, c10, A11, c11, A12, c12, A13, c13, A14, c14, rfl, l0, g0, l1, g1, l2, g2, l3, g3, l4, g4, l5, g5, l6, g6, l8, g8, l9, g9, l10, g10, l11, g11, l12, g12, l13, g13, l14, g14⟩ := k64_open h
  clear l0 g0 l1 g1 l2 g2 l3 g3 l4 g4 l5 g5 l6 g6 l8 g8 l9 g9 l10 g10 l11 g11 l12 g12 l13 g13 l14 g14
  have HK := Aside0.mk h; have HBi := Aside0.mk hb; have HL := Aside0.mk hs.lt
  obtain ⟨w2, hw2⟩ : ∃ w2, w2 = w.alloc (.cells #[.slice A0 x.f0.f0.length c0, .slice A1 x.f0.f1.length c1, .slice A2 x.f0.f2.length c2, .slice A3 x.f0.f3.length c3, .slice A4 x.f0.f4.length c4, .slice A5 x.f0.f5.length c5, .slice A6 x.f0.f6.length c6, .int .i64 x.f0.f7, .slice A8 x.f0.f8.length c8, .slice A9 x.f0.f9.length c9, .slice A10 x.f0.f10.length c10, .slice A11 x.f1.length c11, .slice A12 x.f2.length c12, .slice A13 x.f3.length c13, .slice A14 x.f4.length c14] 64) := ⟨_, rfl⟩
  have HB := Aside0.mk (show Below w.heap.size w w2.drew by rw [hw2]; exact (below_alloc (Below.refl _ _) _).drew)
  have HX := Aside0.mk (show Row w2.drew w.heap.size 64 #[.slice A0 x.f0.f0.length c0, .slice A1 x.f0.f1.length c1, .slice A2 x.f0.f2.length c2, .slice A3 x.f0.f3.length c3, .slice A4 x.f0.f4.length c4, .slice A5 x.f0.f5.length c5, .slice A6 x.f0.f6.length c6, .int .i64 x.f0.f7, .slice A8 x.f0.f8.length c8, .slice A9 x.f0.f9.length c9, .slice A10 x.f0.f10.length c10, .slice A11 x.f1.length c11, .slice A12 x.f2.length c12, .slice A13 x.f3.length c13, .slice A14 x.f4.length c14] by rw [hw2]; exact St.Row.made _ _ _ rfl)
  have HR := Aside0.mk (show Row w2.drew s 90 #[.slice none 0 0, .slice none 0 0, .slice none 0 0, .slice none 0 0, .slice none 0 0] by rw [hw2]; exact St.Row.alloc hs _)
  have HW := Aside0.mk hw2
  clear h hb hs hw2
  refine enterF2 Try.func16 rfl Try.ntmps16 (by decide) ?_
  intro b HF
  refine wp_seq ?_
  refine wp_region_lit ?_
  refine listM rfl HF rfl (by decide) (v := .pointer (some ⟨w.heap.size, 0, none⟩)) (w1 := w2) (by have e1 : b.tmps[1]?.getD undef = .agg #[.slice A0 x.f0.f0.length c0, .slice A1 x.f0.f1.length c1, .slice A2 x.f0.f2.length c2, .slice A3 x.f0.f3.length c3, .slice A4 x.f0.f4.length c4, .slice A5 x.f0.f5.length c5, .slice A6 x.f0.f6.length c6, .int .i64 x.f0.f7, .slice A8 x.f0.f8.length c8, .slice A9 x.f0.f9.length c9, .slice A10 x.f0.f10.length c10, .slice A11 x.f1.length c11, .slice A12 x.f2.length c12, .slice A13 x.f3.length c13, .slice A14 x.f4.length c14] := HF.at rfl; rw [HW.out]; go_simp) ?_
  clear HF b
  intro b HF
  refine listF rfl HF rfl (by decide) (v := .int .i64 0) (by go_simp) ?_
  clear HF b
  intro b HF
  show Code.wp _ _ _ _ _
  refine wp_seq ?_
  replace HF := HF.sub [(3, .pointer (some ⟨w.heap.size, 0, none⟩)), (0, .pointer (some ⟨s, 0, none⟩))] (List.forall_mem_cons.2 ⟨rfl, (List.forall_mem_cons.2 ⟨rfl, by intro p_ hp_; cases hp_⟩)⟩)
  obtain ⟨w3, hw3⟩ : ∃ w3, w3 = w2.drew := ⟨_, rfl⟩
  rw [← hw3] at HB HX HR
  refine start_ (n := 12) (S := fun w' => Row w' s 90 #[.slice none 0 0, .slice none 0 0, .slice none 0 0, .slice none 0 0, .slice none 0 0] ∧ Row w' w.heap.size 64 #[.slice A0 x.f0.f0.length c0, .slice A1 x.f0.f1.length c1, .slice A2 x.f0.f2.length c2, .slice A3 x.f0.f3.length c3, .slice A4 x.f0.f4.length c4, .slice A5 x.f0.f5.length c5, .slice A6 x.f0.f6.length c6, .int .i64 x.f0.f7, .slice A8 x.f0.f8.length c8, .slice A9 x.f0.f9.length c9, .slice A10 x.f0.f10.length c10, .slice A11 x.f1.length c11, .slice A12 x.f2.length c12, .slice A13 x.f3.length c13, .slice A14 x.f4.length c14]) (ds := [8, 9, 10, 11]) (bt 12 0) (by kernel_rfl) rfl (by kernel_rfl) (by rw [← hw3]; exact ⟨HR.out, HX.out⟩) (fun hHeld => ?_)
  refine with_tabW addInst.tab1 addInst.bits1 (fun HT_ HW_ => ?_)
  clear hHeld
  rw [← hw3]
  clear hw3 HW
  refine pureD (i := 0) (k := 5) (v := .pointer (some ⟨s, 0, none⟩)) (bt 12 1) rfl rfl (any_of HT_.out (by kernel_rfl)) (fun _ _ _ h => h) HF rfl (by decide) (by intro wq; have e0 : b.tmps[0]?.getD undef = .pointer (some ⟨s, 0, none⟩) := HF.at rfl; go_simp) ?_
  clear HF b
  intro b HF
  refine pureD (i := 1) (k := 6) (v := .pointer (some ⟨s, 0, none⟩)) (bt 12 3) rfl rfl (any_of HT_.out (by kernel_rfl)) (fun _ _ _ h => h) HF rfl (by decide) (by intro wq; have e0 : b.tmps[0]?.getD undef = .pointer (some ⟨s, 0, none⟩) := HF.at rfl; go_simp) ?_
  clear HF b
  intro b HF
  refine pureD (i := 2) (k := 7) (v := .pointer (some ⟨s, 0, none⟩)) (bt 12 7) rfl rfl (any_of HT_.out (by kernel_rfl)) (fun _ _ _ h => h) HF rfl (by decide) (by intro wq; have e6 : b.tmps[6]?.getD undef = .pointer (some ⟨s, 0, none⟩) := HF.at rfl; go_simp) ?_
  clear HF b
  intro b HF
  refine pureD (i := 3) (k := 8) (v := .pointer (some ⟨s, 4, none⟩)) (bt 12 15) rfl rfl (any_of HT_.out (by kernel_rfl)) (fun _ _ _ h => h) HF rfl (by decide) (by intro wq; have e7 : b.tmps[7]?.getD undef = .pointer (some ⟨s, 0, none⟩) := HF.at rfl; go_simp) ?_
  clear HF b
  intro b HF
  refine takeD (i := 4) (k := 9) (v := .slice none 0 0) (bt 12 31) rfl rfl (take_ofW HT_.out HW_.out (by kernel_rfl)) (fun _ _ _ h => h) HF rfl (by decide) (by intro wq hq; have e8 : b.tmps[8]?.getD undef = .pointer (some ⟨s, 4, none⟩) := HF.at rfl; have c_ : wq.cell? ⟨s, 4, none⟩ = some (.slice none 0 0) := hq.1.cell 4; go_simp) ⟨HR.out, HX.out⟩ ?_
  clear HF b
  intro b HF
  refine takeD (i := 5) (k := 10) (v := .agg #[.slice A0 x.f0.f0.length c0, .slice A1 x.f0.f1.length c1, .slice A2 x.f0.f2.length c2, .slice A3 x.f0.f3.length c3, .slice A4 x.f0.f4.length c4, .slice A5 x.f0.f5.length c5, .slice A6 x.f0.f6.length c6, .int .i64 x.f0.f7, .slice A8 x.f0.f8.length c8, .slice A9 x.f0.f9.length c9, .slice A10 x.f0.f10.length c10, .slice A11 x.f1.length c11, .slice A12 x.f2.length c12, .slice A13 x.f3.length c13, .slice A14 x.f4.length c14]) (bt 12 63) rfl rfl (take_ofW HT_.out HW_.out (by kernel_rfl)) (fun _ _ _ h => h) HF rfl (by decide) (by intro wq hq; have e3 : b.tmps[3]?.getD undef = .pointer (some ⟨w.heap.size, 0, none⟩) := HF.at rfl; have c_0 : wq.cell? ⟨w.heap.size, 0, none⟩ = some (.slice A0 x.f0.f0.length c0) := hq.2.cell 0; have c_1 : wq.cell? ⟨w.heap.size, 1, none⟩ = some (.slice A1 x.f0.f1.length c1) := hq.2.cell 1; have c_2 : wq.cell? ⟨w.heap.size, 2, none⟩ = some (.slice A2 x.f0.f2.length c2) := hq.2.cell 2; have c_3 : wq.cell? ⟨w.heap.size, 3, none⟩ = some (.slice A3 x.f0.f3.length c3) := hq.2.cell 3; have c_4 : wq.cell? ⟨w.heap.size, 4, none⟩ = some (.slice A4 x.f0.f4.length c4) := hq.2.cell 4; have c_5 : wq.cell? ⟨w.heap.size, 5, none⟩ = some (.slice A5 x.f0.f5.length c5) := hq.2.cell 5; have c_6 : wq.cell? ⟨w.heap.size, 6, none⟩ = some (.slice A6 x.f0.f6.length c6) := hq.2.cell 6; have c_7 : wq.cell? ⟨w.heap.size, 7, none⟩ = some (.int .i64 x.f0.f7) := hq.2.cell 7; have c_8 : wq.cell? ⟨w.heap.size, 8, none⟩ = some (.slice A8 x.f0.f8.length c8) := hq.2.cell 8; have c_9 : wq.cell? ⟨w.heap.size, 9, none⟩ = some (.slice A9 x.f0.f9.length c9) := hq.2.cell 9; have c_10 : wq.cell? ⟨w.heap.size, 10, none⟩ = some (.slice A10 x.f0.f10.length c10) := hq.2.cell 10; have c_11 : wq.cell? ⟨w.heap.size, 11, none⟩ = some (.slice A11 x.f1.length c11) := hq.2.cell 11; have c_12 : wq.cell? ⟨w.heap.size, 12, none⟩ = some (.slice A12 x.f2.length c12) := hq.2.cell 12; have c_13 : wq.cell? ⟨w.heap.size, 13, none⟩ = some (.slice A13 x.f3.length c13) := hq.2.cell 13; have c_14 : wq.cell? ⟨w.heap.size, 14, none⟩ = some (.slice A14 x.f4.length c14) := hq.2.cell 14; go_simp) ⟨HR.out, HX.out⟩ ?_
  clear HF b
  intro b HF
  refine oneD (i := 6) (k := 11) (bt 12 127) rfl rfl (one_of HT_.out (by kernel_rfl)) (by decide) HF rfl (by decide) (fun K_ hK_ => ?_)
  have e10 : b.tmps[10]?.getD undef = .agg #[.slice A0 x.f0.f0.length c0, .slice A1 x.f0.f1.length c1, .slice A2 x.f0.f2.length c2, .slice A3 x.f0.f3.length c3, .slice A4 x.f0.f4.length c4, .slice A5 x.f0.f5.length c5, .slice A6 x.f0.f6.length c6, .int .i64 x.f0.f7, .slice A8 x.f0.f8.length c8, .slice A9 x.f0.f9.length c9, .slice A10 x.f0.f10.length c10, .slice A11 x.f1.length c11, .slice A12 x.f2.length c12, .slice A13 x.f3.length c13, .slice A14 x.f4.length c14] := HF.at rfl
  go_simp
  clear e10
  refine (copied_calls (k64.K_below HB.out HK.out) HBi.out).mono ?_
  rintro e w4 ⟨D0, d0, D1, d1, D2, d2, D3, d3, D4, d4, D5, d5, D6, d6, D8, d8, D9, d9, D10, d10, D11, d11, D12, d12, D13, d13, D14, d14, rfl, hM, hb_⟩
  replace HR := Aside0.mk (HR.out.below hb_ HR.out.lt)
  replace HX := Aside0.mk (HX.out.below hb_ HX.out.lt)
  have HM := Aside0.mk (k64.M_lower HB.out.size hM)
  replace HB := Aside0.mk (HB.out.trans (St.below_mono hb_ HB.out.size))
  refine hK_.out _ _ ⟨HR.out, HX.out⟩ ?_
  clear hK_ K_ hM hb_ HF b
  intro b HF
  refine oneD (i := 7) (k := 12) (bt 12 255) rfl rfl (one_of HT_.out (by kernel_rfl)) (by decide) HF rfl (by decide) (fun K_ hK_ => ?_)
  have e11 : b.tmps[11]?.getD undef = .agg #[.slice D0 x.f0.f0.length d0, .slice D1 x.f0.f1.length d1, .slice D2 x.f0.f2.length d2, .slice D3 x.f0.f3.length d3, .slice D4 x.f0.f4.length d4, .slice D5 x.f0.f5.length d5, .slice D6 x.f0.f6.length d6, .int .i64 x.f0.f7, .slice D8 x.f0.f8.length d8, .slice D9 x.f0.f9.length d9, .slice D10 x.f0.f10.length d10, .slice D11 x.f1.length d11, .slice D12 x.f2.length d12, .slice D13 x.f3.length d13, .slice D14 x.f4.length d14] := HF.at rfl
  go_simp
  clear e11
  refine hK_.out _ _ ⟨St.Row.alloc HR.out _, St.Row.alloc HX.out _⟩ ?_
  clear hK_ K_ HF b
  intro b HF
  refine lastD (i := 8) (k := 13) (bt 12 511) rfl rfl (one_of HT_.out (by kernel_rfl)) (by decide) HF (by decide) (fun K_ hK_ => ?_)
  refine Kd.R_append_step (W := w4) (w0 := w) k64 w.heap.size (wanted_of HF rfl) (.tmp 9) (.tmp 12) 81 64 (.agg #[.slice none 0 0, .slice none 0 0, .slice none 0 0, .slice none 0 0, .slice none 0 0, .slice none 0 0, .slice none 0 0, .int .i64 0, .slice none 0 0, .slice none 0 0, .slice none 0 0, .slice none 0 0, .slice none 0 0, .slice none 0 0, .slice none 0 0]) 344 rfl Try.underlying81 (by kernel_rfl) rfl (by decide) (by decide) (.slice none 0 0) [] x [.slice D0 x.f0.f0.length d0, .slice D1 x.f0.f1.length d1, .slice D2 x.f0.f2.length d2, .slice D3 x.f0.f3.length d3, .slice D4 x.f0.f4.length d4, .slice D5 x.f0.f5.length d5, .slice D6 x.f0.f6.length d6, .int .i64 x.f0.f7, .slice D8 x.f0.f8.length d8, .slice D9 x.f0.f9.length d9, .slice D10 x.f0.f10.length d10, .slice D11 x.f1.length d11, .slice D12 x.f2.length d12, .slice D13 x.f3.length d13, .slice D14 x.f4.length d14] (fun _ => True) (fun _ => True) (HF.get rfl) (HF.get rfl) HM.out (fun k_ _ => ⟨trivial, fun e => by cases e⟩) (fun _ _ => trivial) (Kd.R_nil _ _ _ _ _) HB.out HB.out.size (by decide) ?_
  rintro u_ w6 hR6 hB6 hg6 hat6
  obtain ⟨U, e_, rfl⟩ := Kd.R_slice hR6
  refine hK_.out _ _ ?_
  clear hK_ K_
  have r6 := HR.out.grown hg6 (fun e => by cases e)
  have HR7 := Aside0.mk (r6.put_ 4 (.slice U 1 e_))
  have HU := Aside0.mk (Kd.R_set hR6 r6 (by decide) 4 (.slice U 1 e_))
  have HO := Aside0.mk (show St.Only w (w6.setCell ⟨s, 4, none⟩ (.slice U 1 e_)) (fun k => k = s) from St.Only.set (S := fun k => k = s) (g := s) (St.Only.grown (St.Only.of_below HB.out) hg6 (fun k hk => by cases hk)) (.inl rfl) _)
  have HQ := Aside0.mk r6
  clear hR6 hB6 hg6 hat6 r6 HR HX HM HB HF b
  intro b HF
  refine pureD (i := 9) (k := 14) (v := .pointer (some ⟨s, 0, none⟩)) (bt 12 1023) rfl rfl (any_of HT_.out (by kernel_rfl)) (fun _ _ _ h => h) HF rfl (by decide) (by intro wq; have e5 : b.tmps[5]?.getD undef = .pointer (some ⟨s, 0, none⟩) := HF.at rfl; go_simp) ?_
  clear HF b
  intro b HF
  refine pureD (i := 10) (k := 15) (v := .pointer (some ⟨s, 4, none⟩)) (bt 12 2047) rfl rfl (any_of HT_.out (by kernel_rfl)) (fun _ _ _ h => h) HF rfl (by decide) (by intro wq; have e14 : b.tmps[14]?.getD undef = .pointer (some ⟨s, 0, none⟩) := HF.at rfl; go_simp) ?_
  clear HF b
  intro b HF
  refine storeD (i := 11) (bt 12 4095) rfl rfl (one_of HT_.out (by kernel_rfl)) (by decide) HF rfl (fun K_ hK_ => ?_)
  have e13 : b.tmps[13]?.getD undef = .slice U 1 e_ := HF.at rfl
  have e15 : b.tmps[15]?.getD undef = .pointer (some ⟨s, 4, none⟩) := HF.at rfl
  have q4 : w6.cell? ⟨s, 4, none⟩ = some (.slice none 0 0) := HQ.out.cell 4
  have z4 := HQ.out.frozen 4
  go_simp
  refine hK_.out _ ?_
  clear hK_ K_ e13 e15 q4 z4
  refine done_ (done_of HT_.out (by kernel_rfl)) ?_
  clear HT_ HW_ HQ
  obtain ⟨w7, hw7⟩ : ∃ w7, w7 = w6.setCell ⟨s, 4, none⟩ (.slice U 1 e_) := ⟨_, rfl⟩
  rw [← hw7] at HR7 HU HO ⊢
  clear hw7
  show Code.wp _ _ _ _ _
  refine wp_seq ?_
  refine wp_region_lit ?_
  have q4 : w7.cell? ⟨s, 4, none⟩ = some (.slice U 1 e_) := HR7.out.cell 4
  have ew : IntKind.i64.wrap 0 = 0 := by rw [IntKind.wrap_i64]; omega
  refine listF rfl HF rfl (by decide) (v := .pointer (some ⟨s, 0, none⟩)) (by have e0 : b.tmps[0]?.getD undef = .pointer (some ⟨s, 0, none⟩) := HF.at rfl; go_simp) ?_
  clear HF b
  intro b HF
  refine listF rfl HF rfl (by decide) (v := .pointer (some ⟨s, 0, none⟩)) (by have e16 : b.tmps[16]?.getD undef = .pointer (some ⟨s, 0, none⟩) := HF.at rfl; go_simp) ?_
  clear HF b
  intro b HF
  refine listF rfl HF rfl (by decide) (v := .pointer (some ⟨s, 4, none⟩)) (by have e17 : b.tmps[17]?.getD undef = .pointer (some ⟨s, 0, none⟩) := HF.at rfl; go_simp) ?_
  clear HF b
  intro b HF
  refine listF rfl HF rfl (by decide) (v := .slice U 1 e_) (by have e18 : b.tmps[18]?.getD undef = .pointer (some ⟨s, 4, none⟩) := HF.at rfl; go_simp) ?_
  clear HF b
  intro b HF
  refine listF rfl HF rfl (by decide) (v := .int .i64 1) (by have e19 : b.tmps[19]?.getD undef = .slice U 1 e_ := HF.at rfl; go_simp) ?_
  clear HF b
  intro b HF
  refine listF rfl HF rfl (by decide) (v := .int .i64 0) (by have e20 : b.tmps[20]?.getD undef = .int .i64 1 := HF.at rfl; go_simp) ?_
  clear HF b
  intro b HF
  refine listF rfl HF rfl (by decide) (v := .int .i64 0) (by have e21 : b.tmps[21]?.getD undef = .int .i64 0 := HF.at rfl; go_simp) ?_
  clear HF b
  intro b HF
  show Code.wp _ _ _ _ _
  refine wp_ret ?_
  exact bodyPost_ret (results_tmp rfl _ _ _) HF.none ⟨congrArg Ending.returned (HF.get (k := 4) rfl), U, e_, by simpa using HR7.out, HU.out, HO.out⟩
end Go.Proofs.Ytbelijoggbblgaa.Ex
