/- The document's Same of a module and itself, wherever both lie: true. Printed by the program mkex9.py. -/
import Derived.Test.YtbelijoggbblgaaEx8b
namespace Go.Proofs.Ytbelijoggbblgaa.Ex
open Go.RowKit Go.Proofs.YtbelijoggbblgaaW.PrintWords Go.Proofs.YtbelijoggbblgaaW.PrintLast Go.Proofs.Ytbelijoggbblgaa.RStoreExports Go.Proofs.Ytbelijoggbblgaa.Man
set_option linter.unusedVariables false
set_option linter.unusedSimpArgs false
set_option maxHeartbeats 8000000 in
set_option maxRecDepth 100000 in
theorem same_self {w : World} {m : S61} {cs ds : List Value} (h : k61.K w m cs) (h' : k61.K w m ds) : Calls Try.prog 19 #[.agg cs.toArray, .agg ds.toArray] w fun e w' => e = .returned (.bool true) ∧ Below w.heap.size w w' := by
  obtain ⟨A0, a0, A1, a1, A2, a2, A3, a3, A4, a4, A5, a5, A6, a6, A8, a8, A9, a9, A10, a10, rfl, l0, g0, l1, g1, l2, g2, l3, g3, l4, g4, l5, g5, l6, g6, l8, g8, l9, g9, l10, g10⟩ := k61_open h
  have GA0 := Aside0.mk g0
  have GA1 := Aside0.mk g1
  have GA2 := Aside0.mk g2
  have GA3 := Aside0.mk g3
  have GA4 := Aside0.mk g4
  have GA5 := Aside0.mk g5
  have GA6 := Aside0.mk g6
  have GA8 := Aside0.mk g8
  have GA9 := Aside0.mk g9
  have GA10 := Aside0.mk g10
  clear h l0 g0 l1 g1 l2 g2 l3 g3 l4 g4 l5 g5 l6 g6 l8 g8 l9 g9 l10 g10
  obtain ⟨C0, c0, C1, c1, C2, c2, C3, c3, C4, c4, C5, c5, C6, c6, C8, c8, C9, c9, C10, c10, rfl, l0, g0, l1, g1, l2, g2, l3, g3, l4, g4, l5, g5, l6, g6, l8, g8, l9, g9, l10, g10⟩ := k61_open h'
  have GC0 := Aside0.mk g0
  have GC1 := Aside0.mk g1
  have GC2 := Aside0.mk g2
  have GC3 := Aside0.mk g3
  have GC4 := Aside0.mk g4
  have GC5 := Aside0.mk g5
  have GC6 := Aside0.mk g6
  have GC8 := Aside0.mk g8
  have GC9 := Aside0.mk g9
  have GC10 := Aside0.mk g10
  clear h' l0 g0 l1 g1 l2 g2 l3 g3 l4 g4 l5 g5 l6 g6 l8 g8 l9 g9 l10 g10
  obtain ⟨w1, hw1⟩ : ∃ w1, w1 = w.alloc (.cells #[.slice A0 m.f0.length a0, .slice A1 m.f1.length a1, .slice A2 m.f2.length a2, .slice A3 m.f3.length a3, .slice A4 m.f4.length a4, .slice A5 m.f5.length a5, .slice A6 m.f6.length a6, .int .i64 m.f7, .slice A8 m.f8.length a8, .slice A9 m.f9.length a9, .slice A10 m.f10.length a10] 61) := ⟨_, rfl⟩
  have hs1 : w1.heap.size = w.heap.size + 1 := by rw [hw1]; simp
  obtain ⟨w2, hw2⟩ : ∃ w2, w2 = w1.alloc (.cells #[.slice C0 m.f0.length c0, .slice C1 m.f1.length c1, .slice C2 m.f2.length c2, .slice C3 m.f3.length c3, .slice C4 m.f4.length c4, .slice C5 m.f5.length c5, .slice C6 m.f6.length c6, .int .i64 m.f7, .slice C8 m.f8.length c8, .slice C9 m.f9.length c9, .slice C10 m.f10.length c10] 61) := ⟨_, rfl⟩
  have HM := Aside0.mk (show Sm w w2 #[.slice A0 m.f0.length a0, .slice A1 m.f1.length a1, .slice A2 m.f2.length a2, .slice A3 m.f3.length a3, .slice A4 m.f4.length a4, .slice A5 m.f5.length a5, .slice A6 m.f6.length a6, .int .i64 m.f7, .slice A8 m.f8.length a8, .slice A9 m.f9.length a9, .slice A10 m.f10.length a10] #[.slice C0 m.f0.length c0, .slice C1 m.f1.length c1, .slice C2 m.f2.length c2, .slice C3 m.f3.length c3, .slice C4 m.f4.length c4, .slice C5 m.f5.length c5, .slice C6 m.f6.length c6, .int .i64 m.f7, .slice C8 m.f8.length c8, .slice C9 m.f9.length c9, .slice C10 m.f10.length c10] by rw [hw2, hw1]; exact ⟨St.Row.alloc (St.Row.made _ _ _ rfl) _, St.Row.made _ _ _ (by simp), below_alloc (below_alloc (Below.refl _ _) _) _⟩)
  have HW1 := Aside0.mk hw1; have HW2 := Aside0.mk hw2; have HS1 := Aside0.mk hs1
  clear hw1 hw2 hs1
  refine enterF2 Try.func19 rfl Try.ntmps19 (by decide) ?_
  intro b HF
  refine wp_seq ?_
  refine wp_region_lit ?_
  refine listM rfl HF rfl (by decide) (v := .pointer (some ⟨w.heap.size, 0, none⟩)) (w1 := w1) (by have e0 : b.tmps[0]?.getD undef = .agg #[.slice A0 m.f0.length a0, .slice A1 m.f1.length a1, .slice A2 m.f2.length a2, .slice A3 m.f3.length a3, .slice A4 m.f4.length a4, .slice A5 m.f5.length a5, .slice A6 m.f6.length a6, .int .i64 m.f7, .slice A8 m.f8.length a8, .slice A9 m.f9.length a9, .slice A10 m.f10.length a10] := HF.at rfl; rw [HW1.out]; go_simp) ?_
  clear HF b
  intro b HF
  refine listM rfl HF rfl (by decide) (v := .pointer (some ⟨w.heap.size + 1, 0, none⟩)) (w1 := w2) (by have e1 : b.tmps[1]?.getD undef = .agg #[.slice C0 m.f0.length c0, .slice C1 m.f1.length c1, .slice C2 m.f2.length c2, .slice C3 m.f3.length c3, .slice C4 m.f4.length c4, .slice C5 m.f5.length c5, .slice C6 m.f6.length c6, .int .i64 m.f7, .slice C8 m.f8.length c8, .slice C9 m.f9.length c9, .slice C10 m.f10.length c10] := HF.at rfl; rw [HW2.out]; go_simp; exact HS1.out) ?_
  clear HF b
  intro b HF
  refine listF rfl HF rfl (by decide) (v := .bool false) (by go_simp) ?_
  clear HF b
  intro b HF
  show Code.wp _ _ _ _ _
  refine wp_seq ?_
  refine wp_seq ?_
  refine wp_region_lit ?_
  replace HF := HF.sub [(3, .pointer (some ⟨w.heap.size + 1, 0, none⟩)), (2, .pointer (some ⟨w.heap.size, 0, none⟩))] (List.forall_mem_cons.2 ⟨rfl, (List.forall_mem_cons.2 ⟨rfl, by intro p_ hp_; cases hp_⟩)⟩)
  refine listF rfl HF rfl (by decide) (v := .pointer (some ⟨w.heap.size, 7, none⟩)) (by have e2 : b.tmps[2]?.getD undef = .pointer (some ⟨w.heap.size, 0, none⟩) := HF.at rfl; go_simp) ?_
  clear HF b
  intro b HF
  refine listF rfl HF rfl (by decide) (v := .int .i64 m.f7) (by have e16 : b.tmps[16]?.getD undef = .pointer (some ⟨w.heap.size, 7, none⟩) := HF.at rfl; have c_ : w2.cell? ⟨w.heap.size, 7, none⟩ = some (.int .i64 m.f7) := HM.out.a.cell 7; go_simp) ?_
  clear HF b
  intro b HF
  refine listF rfl HF rfl (by decide) (v := .pointer (some ⟨w.heap.size + 1, 7, none⟩)) (by have e3 : b.tmps[3]?.getD undef = .pointer (some ⟨w.heap.size + 1, 0, none⟩) := HF.at rfl; go_simp) ?_
  clear HF b
  intro b HF
  refine listF rfl HF rfl (by decide) (v := .int .i64 m.f7) (by have e18 : b.tmps[18]?.getD undef = .pointer (some ⟨w.heap.size + 1, 7, none⟩) := HF.at rfl; have c_ : w2.cell? ⟨w.heap.size + 1, 7, none⟩ = some (.int .i64 m.f7) := HM.out.b.cell 7; go_simp) ?_
  clear HF b
  intro b HF
  refine listF rfl HF rfl (by decide) (v := .bool false) (by have e17 : b.tmps[17]?.getD undef = .int .i64 m.f7 := HF.at rfl; have e19 : b.tmps[19]?.getD undef = .int .i64 m.f7 := HF.at rfl; go_simp) ?_
  clear HF b
  intro b HF
  refine listF rfl HF rfl (by decide) (v := .bool false) (by have e20 : b.tmps[20]?.getD undef = .bool false := HF.at rfl; go_simp) ?_
  clear HF b
  intro b HF
  refine listF rfl HF rfl (by decide) (v := .pointer (some ⟨w.heap.size, 0, none⟩)) (by have e2 : b.tmps[2]?.getD undef = .pointer (some ⟨w.heap.size, 0, none⟩) := HF.at rfl; go_simp) ?_
  clear HF b
  intro b HF
  refine listF rfl HF rfl (by decide) (v := .slice A0 m.f0.length a0) (by have e22 : b.tmps[22]?.getD undef = .pointer (some ⟨w.heap.size, 0, none⟩) := HF.at rfl; have c_ : w2.cell? ⟨w.heap.size, 0, none⟩ = some (.slice A0 m.f0.length a0) := HM.out.a.cell 0; go_simp) ?_
  clear HF b
  intro b HF
  refine listF rfl HF rfl (by decide) (v := .int .i64 (m.f0.length : Int)) (by have e23 : b.tmps[23]?.getD undef = .slice A0 m.f0.length a0 := HF.at rfl; go_simp) ?_
  clear HF b
  intro b HF
  refine listF rfl HF rfl (by decide) (v := .pointer (some ⟨w.heap.size + 1, 0, none⟩)) (by have e3 : b.tmps[3]?.getD undef = .pointer (some ⟨w.heap.size + 1, 0, none⟩) := HF.at rfl; go_simp) ?_
  clear HF b
  intro b HF
  refine listF rfl HF rfl (by decide) (v := .slice C0 m.f0.length c0) (by have e25 : b.tmps[25]?.getD undef = .pointer (some ⟨w.heap.size + 1, 0, none⟩) := HF.at rfl; have c_ : w2.cell? ⟨w.heap.size + 1, 0, none⟩ = some (.slice C0 m.f0.length c0) := HM.out.b.cell 0; go_simp) ?_
  clear HF b
  intro b HF
  refine listF rfl HF rfl (by decide) (v := .int .i64 (m.f0.length : Int)) (by have e26 : b.tmps[26]?.getD undef = .slice C0 m.f0.length c0 := HF.at rfl; go_simp) ?_
  clear HF b
  intro b HF
  refine listF rfl HF rfl (by decide) (v := .bool false) (by have e24 : b.tmps[24]?.getD undef = .int .i64 (m.f0.length : Int) := HF.at rfl; have e27 : b.tmps[27]?.getD undef = .int .i64 (m.f0.length : Int) := HF.at rfl; go_simp) ?_
  clear HF b
  intro b HF
  refine listF rfl HF rfl (by decide) (v := .bool false) (by have e21 : b.tmps[21]?.getD undef = .bool false := HF.at rfl; have e28 : b.tmps[28]?.getD undef = .bool false := HF.at rfl; go_simp) ?_
  clear HF b
  intro b HF
  refine listF rfl HF rfl (by decide) (v := .bool false) (by have e29 : b.tmps[29]?.getD undef = .bool false := HF.at rfl; go_simp) ?_
  clear HF b
  intro b HF
  refine listF rfl HF rfl (by decide) (v := .pointer (some ⟨w.heap.size, 1, none⟩)) (by have e2 : b.tmps[2]?.getD undef = .pointer (some ⟨w.heap.size, 0, none⟩) := HF.at rfl; go_simp) ?_
  clear HF b
  intro b HF
  refine listF rfl HF rfl (by decide) (v := .slice A1 m.f1.length a1) (by have e31 : b.tmps[31]?.getD undef = .pointer (some ⟨w.heap.size, 1, none⟩) := HF.at rfl; have c_ : w2.cell? ⟨w.heap.size, 1, none⟩ = some (.slice A1 m.f1.length a1) := HM.out.a.cell 1; go_simp) ?_
  clear HF b
  intro b HF
  refine listF rfl HF rfl (by decide) (v := .int .i64 (m.f1.length : Int)) (by have e32 : b.tmps[32]?.getD undef = .slice A1 m.f1.length a1 := HF.at rfl; go_simp) ?_
  clear HF b
  intro b HF
  refine listF rfl HF rfl (by decide) (v := .pointer (some ⟨w.heap.size + 1, 1, none⟩)) (by have e3 : b.tmps[3]?.getD undef = .pointer (some ⟨w.heap.size + 1, 0, none⟩) := HF.at rfl; go_simp) ?_
  clear HF b
  intro b HF
  refine listF rfl HF rfl (by decide) (v := .slice C1 m.f1.length c1) (by have e34 : b.tmps[34]?.getD undef = .pointer (some ⟨w.heap.size + 1, 1, none⟩) := HF.at rfl; have c_ : w2.cell? ⟨w.heap.size + 1, 1, none⟩ = some (.slice C1 m.f1.length c1) := HM.out.b.cell 1; go_simp) ?_
  clear HF b
  intro b HF
  refine listF rfl HF rfl (by decide) (v := .int .i64 (m.f1.length : Int)) (by have e35 : b.tmps[35]?.getD undef = .slice C1 m.f1.length c1 := HF.at rfl; go_simp) ?_
  clear HF b
  intro b HF
  refine listF rfl HF rfl (by decide) (v := .bool false) (by have e33 : b.tmps[33]?.getD undef = .int .i64 (m.f1.length : Int) := HF.at rfl; have e36 : b.tmps[36]?.getD undef = .int .i64 (m.f1.length : Int) := HF.at rfl; go_simp) ?_
  clear HF b
  intro b HF
  refine listF rfl HF rfl (by decide) (v := .bool false) (by have e30 : b.tmps[30]?.getD undef = .bool false := HF.at rfl; have e37 : b.tmps[37]?.getD undef = .bool false := HF.at rfl; go_simp) ?_
  clear HF b
  intro b HF
  refine listF rfl HF rfl (by decide) (v := .bool false) (by have e38 : b.tmps[38]?.getD undef = .bool false := HF.at rfl; go_simp) ?_
  clear HF b
  intro b HF
  refine listF rfl HF rfl (by decide) (v := .pointer (some ⟨w.heap.size, 2, none⟩)) (by have e2 : b.tmps[2]?.getD undef = .pointer (some ⟨w.heap.size, 0, none⟩) := HF.at rfl; go_simp) ?_
  clear HF b
  intro b HF
  refine listF rfl HF rfl (by decide) (v := .slice A2 m.f2.length a2) (by have e40 : b.tmps[40]?.getD undef = .pointer (some ⟨w.heap.size, 2, none⟩) := HF.at rfl; have c_ : w2.cell? ⟨w.heap.size, 2, none⟩ = some (.slice A2 m.f2.length a2) := HM.out.a.cell 2; go_simp) ?_
  clear HF b
  intro b HF
  refine listF rfl HF rfl (by decide) (v := .int .i64 (m.f2.length : Int)) (by have e41 : b.tmps[41]?.getD undef = .slice A2 m.f2.length a2 := HF.at rfl; go_simp) ?_
  clear HF b
  intro b HF
  refine listF rfl HF rfl (by decide) (v := .pointer (some ⟨w.heap.size + 1, 2, none⟩)) (by have e3 : b.tmps[3]?.getD undef = .pointer (some ⟨w.heap.size + 1, 0, none⟩) := HF.at rfl; go_simp) ?_
  clear HF b
  intro b HF
  refine listF rfl HF rfl (by decide) (v := .slice C2 m.f2.length c2) (by have e43 : b.tmps[43]?.getD undef = .pointer (some ⟨w.heap.size + 1, 2, none⟩) := HF.at rfl; have c_ : w2.cell? ⟨w.heap.size + 1, 2, none⟩ = some (.slice C2 m.f2.length c2) := HM.out.b.cell 2; go_simp) ?_
  clear HF b
  intro b HF
  refine listF rfl HF rfl (by decide) (v := .int .i64 (m.f2.length : Int)) (by have e44 : b.tmps[44]?.getD undef = .slice C2 m.f2.length c2 := HF.at rfl; go_simp) ?_
  clear HF b
  intro b HF
  refine listF rfl HF rfl (by decide) (v := .bool false) (by have e42 : b.tmps[42]?.getD undef = .int .i64 (m.f2.length : Int) := HF.at rfl; have e45 : b.tmps[45]?.getD undef = .int .i64 (m.f2.length : Int) := HF.at rfl; go_simp) ?_
  clear HF b
  intro b HF
  refine listF rfl HF rfl (by decide) (v := .bool false) (by have e39 : b.tmps[39]?.getD undef = .bool false := HF.at rfl; have e46 : b.tmps[46]?.getD undef = .bool false := HF.at rfl; go_simp) ?_
  clear HF b
  intro b HF
  refine listF rfl HF rfl (by decide) (v := .bool false) (by have e47 : b.tmps[47]?.getD undef = .bool false := HF.at rfl; go_simp) ?_
  clear HF b
  intro b HF
  refine listF rfl HF rfl (by decide) (v := .pointer (some ⟨w.heap.size, 3, none⟩)) (by have e2 : b.tmps[2]?.getD undef = .pointer (some ⟨w.heap.size, 0, none⟩) := HF.at rfl; go_simp) ?_
  clear HF b
  intro b HF
  refine listF rfl HF rfl (by decide) (v := .slice A3 m.f3.length a3) (by have e49 : b.tmps[49]?.getD undef = .pointer (some ⟨w.heap.size, 3, none⟩) := HF.at rfl; have c_ : w2.cell? ⟨w.heap.size, 3, none⟩ = some (.slice A3 m.f3.length a3) := HM.out.a.cell 3; go_simp) ?_
  clear HF b
  intro b HF
  refine listF rfl HF rfl (by decide) (v := .int .i64 (m.f3.length : Int)) (by have e50 : b.tmps[50]?.getD undef = .slice A3 m.f3.length a3 := HF.at rfl; go_simp) ?_
  clear HF b
  intro b HF
  refine listF rfl HF rfl (by decide) (v := .pointer (some ⟨w.heap.size + 1, 3, none⟩)) (by have e3 : b.tmps[3]?.getD undef = .pointer (some ⟨w.heap.size + 1, 0, none⟩) := HF.at rfl; go_simp) ?_
  clear HF b
  intro b HF
  refine listF rfl HF rfl (by decide) (v := .slice C3 m.f3.length c3) (by have e52 : b.tmps[52]?.getD undef = .pointer (some ⟨w.heap.size + 1, 3, none⟩) := HF.at rfl; have c_ : w2.cell? ⟨w.heap.size + 1, 3, none⟩ = some (.slice C3 m.f3.length c3) := HM.out.b.cell 3; go_simp) ?_
  clear HF b
  intro b HF
  refine listF rfl HF rfl (by decide) (v := .int .i64 (m.f3.length : Int)) (by have e53 : b.tmps[53]?.getD undef = .slice C3 m.f3.length c3 := HF.at rfl; go_simp) ?_
  clear HF b
  intro b HF
  refine listF rfl HF rfl (by decide) (v := .bool false) (by have e51 : b.tmps[51]?.getD undef = .int .i64 (m.f3.length : Int) := HF.at rfl; have e54 : b.tmps[54]?.getD undef = .int .i64 (m.f3.length : Int) := HF.at rfl; go_simp) ?_
  clear HF b
  intro b HF
  refine listF rfl HF rfl (by decide) (v := .bool false) (by have e48 : b.tmps[48]?.getD undef = .bool false := HF.at rfl; have e55 : b.tmps[55]?.getD undef = .bool false := HF.at rfl; go_simp) ?_
  clear HF b
  intro b HF
  refine listF rfl HF rfl (by decide) (v := .bool false) (by have e56 : b.tmps[56]?.getD undef = .bool false := HF.at rfl; go_simp) ?_
  clear HF b
  intro b HF
  refine listF rfl HF rfl (by decide) (v := .pointer (some ⟨w.heap.size, 4, none⟩)) (by have e2 : b.tmps[2]?.getD undef = .pointer (some ⟨w.heap.size, 0, none⟩) := HF.at rfl; go_simp) ?_
  clear HF b
  intro b HF
  refine listF rfl HF rfl (by decide) (v := .slice A4 m.f4.length a4) (by have e58 : b.tmps[58]?.getD undef = .pointer (some ⟨w.heap.size, 4, none⟩) := HF.at rfl; have c_ : w2.cell? ⟨w.heap.size, 4, none⟩ = some (.slice A4 m.f4.length a4) := HM.out.a.cell 4; go_simp) ?_
  clear HF b
  intro b HF
  refine listF rfl HF rfl (by decide) (v := .int .i64 (m.f4.length : Int)) (by have e59 : b.tmps[59]?.getD undef = .slice A4 m.f4.length a4 := HF.at rfl; go_simp) ?_
  clear HF b
  intro b HF
  refine listF rfl HF rfl (by decide) (v := .pointer (some ⟨w.heap.size + 1, 4, none⟩)) (by have e3 : b.tmps[3]?.getD undef = .pointer (some ⟨w.heap.size + 1, 0, none⟩) := HF.at rfl; go_simp) ?_
  clear HF b
  intro b HF
  refine listF rfl HF rfl (by decide) (v := .slice C4 m.f4.length c4) (by have e61 : b.tmps[61]?.getD undef = .pointer (some ⟨w.heap.size + 1, 4, none⟩) := HF.at rfl; have c_ : w2.cell? ⟨w.heap.size + 1, 4, none⟩ = some (.slice C4 m.f4.length c4) := HM.out.b.cell 4; go_simp) ?_
  clear HF b
  intro b HF
  refine listF rfl HF rfl (by decide) (v := .int .i64 (m.f4.length : Int)) (by have e62 : b.tmps[62]?.getD undef = .slice C4 m.f4.length c4 := HF.at rfl; go_simp) ?_
  clear HF b
  intro b HF
  refine listF rfl HF rfl (by decide) (v := .bool false) (by have e60 : b.tmps[60]?.getD undef = .int .i64 (m.f4.length : Int) := HF.at rfl; have e63 : b.tmps[63]?.getD undef = .int .i64 (m.f4.length : Int) := HF.at rfl; go_simp) ?_
  clear HF b
  intro b HF
  refine listF rfl HF rfl (by decide) (v := .bool false) (by have e57 : b.tmps[57]?.getD undef = .bool false := HF.at rfl; have e64 : b.tmps[64]?.getD undef = .bool false := HF.at rfl; go_simp) ?_
  clear HF b
  intro b HF
  refine listF rfl HF rfl (by decide) (v := .bool false) (by have e65 : b.tmps[65]?.getD undef = .bool false := HF.at rfl; go_simp) ?_
  clear HF b
  intro b HF
  refine listF rfl HF rfl (by decide) (v := .pointer (some ⟨w.heap.size, 5, none⟩)) (by have e2 : b.tmps[2]?.getD undef = .pointer (some ⟨w.heap.size, 0, none⟩) := HF.at rfl; go_simp) ?_
  clear HF b
  intro b HF
  refine listF rfl HF rfl (by decide) (v := .slice A5 m.f5.length a5) (by have e67 : b.tmps[67]?.getD undef = .pointer (some ⟨w.heap.size, 5, none⟩) := HF.at rfl; have c_ : w2.cell? ⟨w.heap.size, 5, none⟩ = some (.slice A5 m.f5.length a5) := HM.out.a.cell 5; go_simp) ?_
  clear HF b
  intro b HF
  refine listF rfl HF rfl (by decide) (v := .int .i64 (m.f5.length : Int)) (by have e68 : b.tmps[68]?.getD undef = .slice A5 m.f5.length a5 := HF.at rfl; go_simp) ?_
  clear HF b
  intro b HF
  refine listF rfl HF rfl (by decide) (v := .pointer (some ⟨w.heap.size + 1, 5, none⟩)) (by have e3 : b.tmps[3]?.getD undef = .pointer (some ⟨w.heap.size + 1, 0, none⟩) := HF.at rfl; go_simp) ?_
  clear HF b
  intro b HF
  refine listF rfl HF rfl (by decide) (v := .slice C5 m.f5.length c5) (by have e70 : b.tmps[70]?.getD undef = .pointer (some ⟨w.heap.size + 1, 5, none⟩) := HF.at rfl; have c_ : w2.cell? ⟨w.heap.size + 1, 5, none⟩ = some (.slice C5 m.f5.length c5) := HM.out.b.cell 5; go_simp) ?_
  clear HF b
  intro b HF
  refine listF rfl HF rfl (by decide) (v := .int .i64 (m.f5.length : Int)) (by have e71 : b.tmps[71]?.getD undef = .slice C5 m.f5.length c5 := HF.at rfl; go_simp) ?_
  clear HF b
  intro b HF
  refine listF rfl HF rfl (by decide) (v := .bool false) (by have e69 : b.tmps[69]?.getD undef = .int .i64 (m.f5.length : Int) := HF.at rfl; have e72 : b.tmps[72]?.getD undef = .int .i64 (m.f5.length : Int) := HF.at rfl; go_simp) ?_
  clear HF b
  intro b HF
  refine listF rfl HF rfl (by decide) (v := .bool false) (by have e66 : b.tmps[66]?.getD undef = .bool false := HF.at rfl; have e73 : b.tmps[73]?.getD undef = .bool false := HF.at rfl; go_simp) ?_
  clear HF b
  intro b HF
  refine listF rfl HF rfl (by decide) (v := .bool false) (by have e74 : b.tmps[74]?.getD undef = .bool false := HF.at rfl; go_simp) ?_
  clear HF b
  intro b HF
  refine listF rfl HF rfl (by decide) (v := .pointer (some ⟨w.heap.size, 6, none⟩)) (by have e2 : b.tmps[2]?.getD undef = .pointer (some ⟨w.heap.size, 0, none⟩) := HF.at rfl; go_simp) ?_
  clear HF b
  intro b HF
  refine listF rfl HF rfl (by decide) (v := .slice A6 m.f6.length a6) (by have e76 : b.tmps[76]?.getD undef = .pointer (some ⟨w.heap.size, 6, none⟩) := HF.at rfl; have c_ : w2.cell? ⟨w.heap.size, 6, none⟩ = some (.slice A6 m.f6.length a6) := HM.out.a.cell 6; go_simp) ?_
  clear HF b
  intro b HF
  refine listF rfl HF rfl (by decide) (v := .int .i64 (m.f6.length : Int)) (by have e77 : b.tmps[77]?.getD undef = .slice A6 m.f6.length a6 := HF.at rfl; go_simp) ?_
  clear HF b
  intro b HF
  refine listF rfl HF rfl (by decide) (v := .pointer (some ⟨w.heap.size + 1, 6, none⟩)) (by have e3 : b.tmps[3]?.getD undef = .pointer (some ⟨w.heap.size + 1, 0, none⟩) := HF.at rfl; go_simp) ?_
  clear HF b
  intro b HF
  refine listF rfl HF rfl (by decide) (v := .slice C6 m.f6.length c6) (by have e79 : b.tmps[79]?.getD undef = .pointer (some ⟨w.heap.size + 1, 6, none⟩) := HF.at rfl; have c_ : w2.cell? ⟨w.heap.size + 1, 6, none⟩ = some (.slice C6 m.f6.length c6) := HM.out.b.cell 6; go_simp) ?_
  clear HF b
  intro b HF
  refine listF rfl HF rfl (by decide) (v := .int .i64 (m.f6.length : Int)) (by have e80 : b.tmps[80]?.getD undef = .slice C6 m.f6.length c6 := HF.at rfl; go_simp) ?_
  clear HF b
  intro b HF
  refine listF rfl HF rfl (by decide) (v := .bool false) (by have e78 : b.tmps[78]?.getD undef = .int .i64 (m.f6.length : Int) := HF.at rfl; have e81 : b.tmps[81]?.getD undef = .int .i64 (m.f6.length : Int) := HF.at rfl; go_simp) ?_
  clear HF b
  intro b HF
  refine listF rfl HF rfl (by decide) (v := .bool false) (by have e75 : b.tmps[75]?.getD undef = .bool false := HF.at rfl; have e82 : b.tmps[82]?.getD undef = .bool false := HF.at rfl; go_simp) ?_
  clear HF b
  intro b HF
  refine listF rfl HF rfl (by decide) (v := .bool false) (by have e83 : b.tmps[83]?.getD undef = .bool false := HF.at rfl; go_simp) ?_
  clear HF b
  intro b HF
  refine listF rfl HF rfl (by decide) (v := .pointer (some ⟨w.heap.size, 8, none⟩)) (by have e2 : b.tmps[2]?.getD undef = .pointer (some ⟨w.heap.size, 0, none⟩) := HF.at rfl; go_simp) ?_
  clear HF b
  intro b HF
  refine listF rfl HF rfl (by decide) (v := .slice A8 m.f8.length a8) (by have e85 : b.tmps[85]?.getD undef = .pointer (some ⟨w.heap.size, 8, none⟩) := HF.at rfl; have c_ : w2.cell? ⟨w.heap.size, 8, none⟩ = some (.slice A8 m.f8.length a8) := HM.out.a.cell 8; go_simp) ?_
  clear HF b
  intro b HF
  refine listF rfl HF rfl (by decide) (v := .int .i64 (m.f8.length : Int)) (by have e86 : b.tmps[86]?.getD undef = .slice A8 m.f8.length a8 := HF.at rfl; go_simp) ?_
  clear HF b
  intro b HF
  refine listF rfl HF rfl (by decide) (v := .pointer (some ⟨w.heap.size + 1, 8, none⟩)) (by have e3 : b.tmps[3]?.getD undef = .pointer (some ⟨w.heap.size + 1, 0, none⟩) := HF.at rfl; go_simp) ?_
  clear HF b
  intro b HF
  refine listF rfl HF rfl (by decide) (v := .slice C8 m.f8.length c8) (by have e88 : b.tmps[88]?.getD undef = .pointer (some ⟨w.heap.size + 1, 8, none⟩) := HF.at rfl; have c_ : w2.cell? ⟨w.heap.size + 1, 8, none⟩ = some (.slice C8 m.f8.length c8) := HM.out.b.cell 8; go_simp) ?_
  clear HF b
  intro b HF
  refine listF rfl HF rfl (by decide) (v := .int .i64 (m.f8.length : Int)) (by have e89 : b.tmps[89]?.getD undef = .slice C8 m.f8.length c8 := HF.at rfl; go_simp) ?_
  clear HF b
  intro b HF
  refine listF rfl HF rfl (by decide) (v := .bool false) (by have e87 : b.tmps[87]?.getD undef = .int .i64 (m.f8.length : Int) := HF.at rfl; have e90 : b.tmps[90]?.getD undef = .int .i64 (m.f8.length : Int) := HF.at rfl; go_simp) ?_
  clear HF b
  intro b HF
  refine listF rfl HF rfl (by decide) (v := .bool false) (by have e84 : b.tmps[84]?.getD undef = .bool false := HF.at rfl; have e91 : b.tmps[91]?.getD undef = .bool false := HF.at rfl; go_simp) ?_
  clear HF b
  intro b HF
  refine listF rfl HF rfl (by decide) (v := .bool false) (by have e92 : b.tmps[92]?.getD undef = .bool false := HF.at rfl; go_simp) ?_
  clear HF b
  intro b HF
  refine listF rfl HF rfl (by decide) (v := .pointer (some ⟨w.heap.size, 9, none⟩)) (by have e2 : b.tmps[2]?.getD undef = .pointer (some ⟨w.heap.size, 0, none⟩) := HF.at rfl; go_simp) ?_
  clear HF b
  intro b HF
  refine listF rfl HF rfl (by decide) (v := .slice A9 m.f9.length a9) (by have e94 : b.tmps[94]?.getD undef = .pointer (some ⟨w.heap.size, 9, none⟩) := HF.at rfl; have c_ : w2.cell? ⟨w.heap.size, 9, none⟩ = some (.slice A9 m.f9.length a9) := HM.out.a.cell 9; go_simp) ?_
  clear HF b
  intro b HF
  refine listF rfl HF rfl (by decide) (v := .int .i64 (m.f9.length : Int)) (by have e95 : b.tmps[95]?.getD undef = .slice A9 m.f9.length a9 := HF.at rfl; go_simp) ?_
  clear HF b
  intro b HF
  refine listF rfl HF rfl (by decide) (v := .pointer (some ⟨w.heap.size + 1, 9, none⟩)) (by have e3 : b.tmps[3]?.getD undef = .pointer (some ⟨w.heap.size + 1, 0, none⟩) := HF.at rfl; go_simp) ?_
  clear HF b
  intro b HF
  refine listF rfl HF rfl (by decide) (v := .slice C9 m.f9.length c9) (by have e97 : b.tmps[97]?.getD undef = .pointer (some ⟨w.heap.size + 1, 9, none⟩) := HF.at rfl; have c_ : w2.cell? ⟨w.heap.size + 1, 9, none⟩ = some (.slice C9 m.f9.length c9) := HM.out.b.cell 9; go_simp) ?_
  clear HF b
  intro b HF
  refine listF rfl HF rfl (by decide) (v := .int .i64 (m.f9.length : Int)) (by have e98 : b.tmps[98]?.getD undef = .slice C9 m.f9.length c9 := HF.at rfl; go_simp) ?_
  clear HF b
  intro b HF
  refine listF rfl HF rfl (by decide) (v := .bool false) (by have e96 : b.tmps[96]?.getD undef = .int .i64 (m.f9.length : Int) := HF.at rfl; have e99 : b.tmps[99]?.getD undef = .int .i64 (m.f9.length : Int) := HF.at rfl; go_simp) ?_
  clear HF b
  intro b HF
  refine listF rfl HF rfl (by decide) (v := .bool false) (by have e93 : b.tmps[93]?.getD undef = .bool false := HF.at rfl; have e100 : b.tmps[100]?.getD undef = .bool false := HF.at rfl; go_simp) ?_
  clear HF b
  intro b HF
  refine listF rfl HF rfl (by decide) (v := .bool false) (by have e101 : b.tmps[101]?.getD undef = .bool false := HF.at rfl; go_simp) ?_
  clear HF b
  intro b HF
  refine listF rfl HF rfl (by decide) (v := .pointer (some ⟨w.heap.size, 10, none⟩)) (by have e2 : b.tmps[2]?.getD undef = .pointer (some ⟨w.heap.size, 0, none⟩) := HF.at rfl; go_simp) ?_
  clear HF b
  intro b HF
  refine listF rfl HF rfl (by decide) (v := .slice A10 m.f10.length a10) (by have e103 : b.tmps[103]?.getD undef = .pointer (some ⟨w.heap.size, 10, none⟩) := HF.at rfl; have c_ : w2.cell? ⟨w.heap.size, 10, none⟩ = some (.slice A10 m.f10.length a10) := HM.out.a.cell 10; go_simp) ?_
  clear HF b
  intro b HF
  refine listF rfl HF rfl (by decide) (v := .int .i64 (m.f10.length : Int)) (by have e104 : b.tmps[104]?.getD undef = .slice A10 m.f10.length a10 := HF.at rfl; go_simp) ?_
  clear HF b
  intro b HF
  refine listF rfl HF rfl (by decide) (v := .pointer (some ⟨w.heap.size + 1, 10, none⟩)) (by have e3 : b.tmps[3]?.getD undef = .pointer (some ⟨w.heap.size + 1, 0, none⟩) := HF.at rfl; go_simp) ?_
  clear HF b
  intro b HF
  refine listF rfl HF rfl (by decide) (v := .slice C10 m.f10.length c10) (by have e106 : b.tmps[106]?.getD undef = .pointer (some ⟨w.heap.size + 1, 10, none⟩) := HF.at rfl; have c_ : w2.cell? ⟨w.heap.size + 1, 10, none⟩ = some (.slice C10 m.f10.length c10) := HM.out.b.cell 10; go_simp) ?_
  clear HF b
  intro b HF
  refine listF rfl HF rfl (by decide) (v := .int .i64 (m.f10.length : Int)) (by have e107 : b.tmps[107]?.getD undef = .slice C10 m.f10.length c10 := HF.at rfl; go_simp) ?_
  clear HF b
  intro b HF
  refine listF rfl HF rfl (by decide) (v := .bool false) (by have e105 : b.tmps[105]?.getD undef = .int .i64 (m.f10.length : Int) := HF.at rfl; have e108 : b.tmps[108]?.getD undef = .int .i64 (m.f10.length : Int) := HF.at rfl; go_simp) ?_
  clear HF b
  intro b HF
  refine listF rfl HF rfl (by decide) (v := .bool false) (by have e102 : b.tmps[102]?.getD undef = .bool false := HF.at rfl; have e109 : b.tmps[109]?.getD undef = .bool false := HF.at rfl; go_simp) ?_
  clear HF b
  intro b HF
  show Code.wp _ _ _ _ _
  refine wp_cond_false (HF.get rfl) ?_
  refine wp_skip ?_
  show Code.wp _ _ _ _ _
  replace HF := HF.sub [(3, .pointer (some ⟨w.heap.size + 1, 0, none⟩)), (2, .pointer (some ⟨w.heap.size, 0, none⟩))] (List.forall_mem_cons.2 ⟨rfl, (List.forall_mem_cons.2 ⟨rfl, by intro p_ hp_; cases hp_⟩)⟩)
  refine wp_seq ?_
  refine wp_region_lit ?_
  refine listF rfl HF rfl (by decide) (v := .bool true) (by go_simp) ?_
  clear HF b
  intro b HF
  show Code.wp _ _ _ _ _
  refine wp_seq ?_
  refine wp_seq ?_
  refine wp_region_lit ?_
  refine listF rfl HF rfl (by decide) (v := .int .i64 0) (by go_simp) ?_
  clear HF b
  intro b HF
  show Code.wp _ _ _ _ _
  refine sameL0 GA0.out GC0.out rfl rfl HF HM.out ?_
  clear HF HM b
  intro b wx0 HF hm
  have HM := Aside0.mk hm
  clear hm
  show Code.wp _ _ _ _ _
  refine wp_seq ?_
  refine wp_seq ?_
  refine wp_region_lit ?_
  refine listF rfl HF rfl (by decide) (v := .int .i64 0) (by go_simp) ?_
  clear HF b
  intro b HF
  show Code.wp _ _ _ _ _
  refine sameL1 GA1.out GC1.out rfl rfl HF HM.out ?_
  clear HF HM b
  intro b wx1 HF hm
  have HM := Aside0.mk hm
  clear hm
  show Code.wp _ _ _ _ _
  refine wp_seq ?_
  refine wp_seq ?_
  refine wp_region_lit ?_
  refine listF rfl HF rfl (by decide) (v := .int .i64 0) (by go_simp) ?_
  clear HF b
  intro b HF
  show Code.wp _ _ _ _ _
  refine sameL2 GA2.out GC2.out rfl rfl HF HM.out ?_
  clear HF HM b
  intro b wx2 HF hm
  have HM := Aside0.mk hm
  clear hm
  show Code.wp _ _ _ _ _
  refine wp_seq ?_
  refine wp_seq ?_
  refine wp_region_lit ?_
  refine listF rfl HF rfl (by decide) (v := .int .i64 0) (by go_simp) ?_
  clear HF b
  intro b HF
  show Code.wp _ _ _ _ _
  refine sameL3 GA3.out GC3.out rfl rfl HF HM.out ?_
  clear HF HM b
  intro b wx3 HF hm
  have HM := Aside0.mk hm
  clear hm
  show Code.wp _ _ _ _ _
  refine wp_seq ?_
  refine wp_seq ?_
  refine wp_region_lit ?_
  refine listF rfl HF rfl (by decide) (v := .int .i64 0) (by go_simp) ?_
  clear HF b
  intro b HF
  show Code.wp _ _ _ _ _
  refine sameL4 GA4.out GC4.out rfl rfl HF HM.out ?_
  clear HF HM b
  intro b wx4 HF hm
  have HM := Aside0.mk hm
  clear hm
  show Code.wp _ _ _ _ _
  refine wp_seq ?_
  refine wp_seq ?_
  refine wp_region_lit ?_
  refine listF rfl HF rfl (by decide) (v := .int .i64 0) (by go_simp) ?_
  clear HF b
  intro b HF
  show Code.wp _ _ _ _ _
  refine sameL5 GA5.out GC5.out rfl rfl HF HM.out ?_
  clear HF HM b
  intro b wx5 HF hm
  have HM := Aside0.mk hm
  clear hm
  show Code.wp _ _ _ _ _
  refine wp_seq ?_
  refine wp_seq ?_
  refine wp_region_lit ?_
  refine listF rfl HF rfl (by decide) (v := .int .i64 0) (by go_simp) ?_
  clear HF b
  intro b HF
  show Code.wp _ _ _ _ _
  refine sameL6 GA6.out GC6.out rfl rfl HF HM.out ?_
  clear HF HM b
  intro b wx6 HF hm
  have HM := Aside0.mk hm
  clear hm
  show Code.wp _ _ _ _ _
  refine wp_seq ?_
  refine wp_seq ?_
  refine wp_region_lit ?_
  refine listF rfl HF rfl (by decide) (v := .int .i64 0) (by go_simp) ?_
  clear HF b
  intro b HF
  show Code.wp _ _ _ _ _
  refine sameL8 GA8.out GC8.out rfl rfl HF HM.out ?_
  clear HF HM b
  intro b wx8 HF hm
  have HM := Aside0.mk hm
  clear hm
  show Code.wp _ _ _ _ _
  refine wp_seq ?_
  refine wp_seq ?_
  refine wp_region_lit ?_
  refine listF rfl HF rfl (by decide) (v := .int .i64 0) (by go_simp) ?_
  clear HF b
  intro b HF
  show Code.wp _ _ _ _ _
  refine sameL9 GA9.out GC9.out rfl rfl HF HM.out ?_
  clear HF HM b
  intro b wx9 HF hm
  have HM := Aside0.mk hm
  clear hm
  show Code.wp _ _ _ _ _
  refine wp_seq ?_
  refine wp_seq ?_
  refine wp_region_lit ?_
  refine listF rfl HF rfl (by decide) (v := .int .i64 0) (by go_simp) ?_
  clear HF b
  intro b HF
  show Code.wp _ _ _ _ _
  refine sameL10 GA10.out GC10.out rfl rfl HF HM.out ?_
  clear HF HM b
  intro b wx10 HF hm
  have HM := Aside0.mk hm
  clear hm
  show Code.wp _ _ _ _ _
  refine wp_seq ?_
  refine wp_region_lit ?_
  refine listF rfl HF rfl (by decide) (v := .bool true) (by have e5 : b.tmps[5]?.getD undef = .bool true := HF.at rfl; go_simp) ?_
  clear HF b
  intro b HF
  refine listF rfl HF rfl (by decide) (v := .bool true) (by have e463 : b.tmps[463]?.getD undef = .bool true := HF.at rfl; go_simp) ?_
  clear HF b
  intro b HF
  show Code.wp _ _ _ _ _
  refine wp_ret ?_
  exact bodyPost_ret (results_tmp rfl _ _ _) HF.none ⟨congrArg Ending.returned (HF.get (k := 4) rfl), HM.out.low⟩
end Go.Proofs.Ytbelijoggbblgaa.Ex
