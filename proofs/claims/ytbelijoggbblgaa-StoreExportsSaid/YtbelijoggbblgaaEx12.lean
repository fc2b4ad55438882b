/- Instance of a store that has one: a copy of it, or none. Printed by the program mkex12.py. -/
import Derived.Test.YtbelijoggbblgaaEx10
import Derived.Test.YtbelijoggbblgaaEx11
namespace Go.Proofs.Ytbelijoggbblgaa.Ex
open Go.RowKit Go.Proofs.YtbelijoggbblgaaW.PrintWords Go.Proofs.YtbelijoggbblgaaW.PrintLast Go.Proofs.Ytbelijoggbblgaa.RStoreExports Go.Proofs.Ytbelijoggbblgaa.Man
set_option linter.unusedVariables false
set_option linter.unusedSimpArgs false
/-- The store's one instance, as it lies. -/
theorem R64_one {w : World} {base : Nat} {v : Value} {x : S64} (h : k64.R 64 w base (fun _ => True) v [x]) : ∃ (g : Nat) (cap : Nat) (B0 : Option Addr) (b0 : Nat) (B1 : Option Addr) (b1 : Nat) (B2 : Option Addr) (b2 : Nat) (B3 : Option Addr) (b3 : Nat) (B4 : Option Addr) (b4 : Nat) (B5 : Option Addr) (b5 : Nat) (B6 : Option Addr) (b6 : Nat) (B8 : Option Addr) (b8 : Nat) (B9 : Option Addr) (b9 : Nat) (B10 : Option Addr) (b10 : Nat) (B11 : Option Addr) (b11 : Nat) (B12 : Option Addr) (b12 : Nat) (B13 : Option Addr) (b13 : Nat) (B14 : Option Addr) (b14 : Nat), v = .slice (some ⟨g, 0, none⟩) 1 cap ∧ (∀ j u, ([.slice B0 x.f0.f0.length b0, .slice B1 x.f0.f1.length b1, .slice B2 x.f0.f2.length b2, .slice B3 x.f0.f3.length b3, .slice B4 x.f0.f4.length b4, .slice B5 x.f0.f5.length b5, .slice B6 x.f0.f6.length b6, .int .i64 x.f0.f7, .slice B8 x.f0.f8.length b8, .slice B9 x.f0.f9.length b9, .slice B10 x.f0.f10.length b10, .slice B11 x.f1.length b11, .slice B12 x.f2.length b12, .slice B13 x.f3.length b13, .slice B14 x.f4.length b14] : List Value)[j]? = some u → w.cell? ⟨g, j, none⟩ = some u) ∧ k64.M w base (fun _ => True) x [.slice B0 x.f0.f0.length b0, .slice B1 x.f0.f1.length b1, .slice B2 x.f0.f2.length b2, .slice B3 x.f0.f3.length b3, .slice B4 x.f0.f4.length b4, .slice B5 x.f0.f5.length b5, .slice B6 x.f0.f6.length b6, .int .i64 x.f0.f7, .slice B8 x.f0.f8.length b8, .slice B9 x.f0.f9.length b9, .slice B10 x.f0.f10.length b10, .slice B11 x.f1.length b11, .slice B12 x.f2.length b12, .slice B13 x.f3.length b13, .slice B14 x.f4.length b14] := by
  obtain ⟨h0, inner, ho, hl, hr⟩ := h
  have hM := hr 0 x rfl
  rw [Nat.zero_mul, List.drop_zero] at hM
  have hl9 : inner.length = 15 := by rw [hl]; rfl
  rw [List.take_of_length_le (by rw [hl9]; decide)] at hM
  obtain ⟨v0, v1, v2, v3, v4, v5, v6, v8, v9, v10, v11, v12, v13, v14, he, r0, r1, r2, r3, r4, r5, r6, r8, r9, r10, r11, r12, r13, r14⟩ := k64_openM hM
  obtain ⟨B0, b0, rfl⟩ := Kd.R_slice r0
  obtain ⟨B1, b1, rfl⟩ := Kd.R_slice r1
  obtain ⟨B2, b2, rfl⟩ := Kd.R_slice r2
  obtain ⟨B3, b3, rfl⟩ := Kd.R_slice r3
  obtain ⟨B4, b4, rfl⟩ := Kd.R_slice r4
  obtain ⟨B5, b5, rfl⟩ := Kd.R_slice r5
  obtain ⟨B6, b6, rfl⟩ := Kd.R_slice r6
  obtain ⟨B8, b8, rfl⟩ := Kd.R_slice r8
  obtain ⟨B9, b9, rfl⟩ := Kd.R_slice r9
  obtain ⟨B10, b10, rfl⟩ := Kd.R_slice r10
  obtain ⟨B11, b11, rfl⟩ := Kd.R_slice r11
  obtain ⟨B12, b12, rfl⟩ := Kd.R_slice r12
  obtain ⟨B13, b13, rfl⟩ := Kd.R_slice r13
  obtain ⟨B14, b14, rfl⟩ := Kd.R_slice r14
  clear r0 r1 r2 r3 r4 r5 r6 r8 r9 r10 r11 r12 r13 r14
  subst he
  rcases ho.2 with ⟨_, e⟩ | ⟨g, cap, cur, rfl, _⟩
  · simp at e
  · exact ⟨g, cap, B0, b0, B1, b1, B2, b2, B3, b3, B4, b4, B5, b5, B6, b6, B8, b8, B9, b9, B10, b10, B11, b11, B12, b12, B13, b13, B14, b14, rfl, fun j u hu => by
      have hj : j < 15 := (List.getElem?_eq_some_iff.1 hu).1
      exact (ho.cellAt j (by exact hj)).trans hu, k64.M_mono (fun _ _ => trivial) hM⟩
set_option maxHeartbeats 2000000 in
set_option maxRecDepth 100000 in
theorem inst_no {w : World} {s : Nat} {U : Option Addr} {e_ : Nat} (hs : Row w s 90 #[.slice none 0 0, .slice none 0 0, .slice none 0 0, .slice none 0 0, .slice U 1 e_]) (i : Int) (hi : i ≠ 0) :
    Calls Try.prog 18 #[.pointer (some ⟨s, 0, none⟩), .int .i64 i] w fun e w' => e = .returned (.tuple #[.agg #[.slice none 0 0, .slice none 0 0, .slice none 0 0, .slice none 0 0, .slice none 0 0, .slice none 0 0, .slice none 0 0, .int .i64 0, .slice none 0 0, .slice none 0 0, .slice none 0 0, .slice none 0 0, .slice none 0 0, .slice none 0 0, .slice none 0 0], .bool false]) ∧ Below w.heap.size w w' := by
  have hv : (decide (0 ≤ i) && decide (i < ((1 : Nat) : Int))) = false := by
    rw [Bool.and_eq_false_iff]
    rcases Int.lt_or_le i 0 with h | h
    · exact .inl (decide_eq_false (by omega))
    · exact .inr (decide_eq_false (by omega))
  have HV := Aside0.mk hv
  clear hv hi
  obtain ⟨w2, hw2⟩ : ∃ w2, w2 = w.alloc (.cells #[.slice none 0 0, .slice none 0 0, .slice none 0 0, .slice none 0 0, .slice none 0 0, .slice none 0 0, .slice none 0 0, .int .i64 0, .slice none 0 0, .slice none 0 0, .slice none 0 0, .slice none 0 0, .slice none 0 0, .slice none 0 0, .slice none 0 0] 64) := ⟨_, rfl⟩
  have HB := Aside0.mk (show Below w.heap.size w w2 by rw [hw2]; exact below_alloc (Below.refl _ _) _)
  have HZ := Aside0.mk (show Row w2 w.heap.size 64 Z64 by rw [hw2]; exact St.Row.made _ _ _ rfl)
  have HR := Aside0.mk (show Row w2 s 90 #[.slice none 0 0, .slice none 0 0, .slice none 0 0, .slice none 0 0, .slice U 1 e_] by rw [hw2]; exact St.Row.alloc hs _)
  have HL := Aside0.mk hs.lt
  have HW := Aside0.mk hw2
  clear hs hw2
  refine enterF2 Try.func18 rfl Try.ntmps18 (by decide) ?_
  intro b HF
  refine wp_seq ?_
  refine wp_region_lit ?_
  refine listM rfl HF rfl (by decide) (v := .pointer (some ⟨w.heap.size, 0, none⟩)) (w1 := w2) (by rw [HW.out]; go_simp) ?_
  clear HF b
  intro b HF
  refine listF rfl HF rfl (by decide) (v := .bool false) (by go_simp) ?_
  clear HF b
  intro b HF
  show Code.wp _ _ _ _ _
  refine wp_seq ?_
  refine wp_seq ?_
  refine wp_region_lit ?_
  replace HF := HF.sub [(5, .bool false), (4, .pointer (some ⟨w.heap.size, 0, none⟩)), (1, .int .i64 i), (0, .pointer (some ⟨s, 0, none⟩))] (List.forall_mem_cons.2 ⟨rfl, (List.forall_mem_cons.2 ⟨rfl, (List.forall_mem_cons.2 ⟨rfl, (List.forall_mem_cons.2 ⟨rfl, by intro p_ hp_; cases hp_⟩)⟩)⟩)⟩)
  have q4 : w2.cell? ⟨s, 4, none⟩ = some (.slice U 1 e_) := HR.out.cell 4
  refine listF rfl HF rfl (by decide) (v := .pointer (some ⟨s, 0, none⟩)) (by have e0 : b.tmps[0]?.getD undef = .pointer (some ⟨s, 0, none⟩) := HF.at rfl; go_simp) ?_
  clear HF b
  intro b HF
  refine listF rfl HF rfl (by decide) (v := .pointer (some ⟨s, 0, none⟩)) (by have e6 : b.tmps[6]?.getD undef = .pointer (some ⟨s, 0, none⟩) := HF.at rfl; go_simp) ?_
  clear HF b
  intro b HF
  refine listF rfl HF rfl (by decide) (v := .pointer (some ⟨s, 4, none⟩)) (by have e7 : b.tmps[7]?.getD undef = .pointer (some ⟨s, 0, none⟩) := HF.at rfl; go_simp) ?_
  clear HF b
  intro b HF
  refine listF rfl HF rfl (by decide) (v := .slice U 1 e_) (by have e8 : b.tmps[8]?.getD undef = .pointer (some ⟨s, 4, none⟩) := HF.at rfl; go_simp) ?_
  clear HF b
  intro b HF
  refine listF rfl HF rfl (by decide) (v := .int .i64 i) (by have e1 : b.tmps[1]?.getD undef = .int .i64 i := HF.at rfl; go_simp) ?_
  clear HF b
  intro b HF
  refine listC rfl HF rfl (by decide) (fun K_ hK_ => ?_)
  have e9 : b.tmps[9]?.getD undef = .slice U 1 e_ := HF.at rfl
  have e10 : b.tmps[10]?.getD undef = .int .i64 i := HF.at rfl
  go_simp
  refine (has_calls w2 U 1 e_ i).mono ?_
  rintro e wz ⟨rfl, hwz⟩
  rw [hwz, HV.out]
  clear hwz wz
  refine hK_.out _ _ ?_
  clear hK_ K_ e9 e10 HF b
  intro b HF
  refine listF rfl HF rfl (by decide) (v := .bool true) (by have e11 : b.tmps[11]?.getD undef = .bool false := HF.at rfl; go_simp) ?_
  clear HF b
  intro b HF
  show Code.wp _ _ _ _ _
  refine wp_cond_true (HF.get rfl) ?_
  refine wp_seq ?_
  refine wp_region_lit ?_
  clear q4
  refine listF rfl HF rfl (by decide) (v := .agg #[.slice none 0 0, .slice none 0 0, .slice none 0 0, .slice none 0 0, .slice none 0 0, .slice none 0 0, .slice none 0 0, .int .i64 0, .slice none 0 0, .slice none 0 0, .slice none 0 0, .slice none 0 0, .slice none 0 0, .slice none 0 0, .slice none 0 0]) (by go_simp) ?_
  clear HF b
  intro b HF
  have y0 : w2.cell? ⟨w.heap.size, 0, none⟩ = some (.slice none 0 0) := HZ.out.cell 0; have z0 := HZ.out.frozen 0
  have y1 : w2.cell? ⟨w.heap.size, 1, none⟩ = some (.slice none 0 0) := HZ.out.cell 1; have z1 := HZ.out.frozen 1
  have y2 : w2.cell? ⟨w.heap.size, 2, none⟩ = some (.slice none 0 0) := HZ.out.cell 2; have z2 := HZ.out.frozen 2
  have y3 : w2.cell? ⟨w.heap.size, 3, none⟩ = some (.slice none 0 0) := HZ.out.cell 3; have z3 := HZ.out.frozen 3
  have y4 : w2.cell? ⟨w.heap.size, 4, none⟩ = some (.slice none 0 0) := HZ.out.cell 4; have z4 := HZ.out.frozen 4
  have y5 : w2.cell? ⟨w.heap.size, 5, none⟩ = some (.slice none 0 0) := HZ.out.cell 5; have z5 := HZ.out.frozen 5
  have y6 : w2.cell? ⟨w.heap.size, 6, none⟩ = some (.slice none 0 0) := HZ.out.cell 6; have z6 := HZ.out.frozen 6
  have y7 : w2.cell? ⟨w.heap.size, 7, none⟩ = some (.int .i64 0) := HZ.out.cell 7; have z7 := HZ.out.frozen 7
  have y8 : w2.cell? ⟨w.heap.size, 8, none⟩ = some (.slice none 0 0) := HZ.out.cell 8; have z8 := HZ.out.frozen 8
  have y9 : w2.cell? ⟨w.heap.size, 9, none⟩ = some (.slice none 0 0) := HZ.out.cell 9; have z9 := HZ.out.frozen 9
  have y10 : w2.cell? ⟨w.heap.size, 10, none⟩ = some (.slice none 0 0) := HZ.out.cell 10; have z10 := HZ.out.frozen 10
  have y11 : w2.cell? ⟨w.heap.size, 11, none⟩ = some (.slice none 0 0) := HZ.out.cell 11; have z11 := HZ.out.frozen 11
  have y12 : w2.cell? ⟨w.heap.size, 12, none⟩ = some (.slice none 0 0) := HZ.out.cell 12; have z12 := HZ.out.frozen 12
  have y13 : w2.cell? ⟨w.heap.size, 13, none⟩ = some (.slice none 0 0) := HZ.out.cell 13; have z13 := HZ.out.frozen 13
  have y14 : w2.cell? ⟨w.heap.size, 14, none⟩ = some (.slice none 0 0) := HZ.out.cell 14; have z14 := HZ.out.frozen 14
  refine listS (w1 := put15 w2 w.heap.size (.slice none 0 0) (.slice none 0 0) (.slice none 0 0) (.slice none 0 0) (.slice none 0 0) (.slice none 0 0) (.slice none 0 0) (.int .i64 0) (.slice none 0 0) (.slice none 0 0) (.slice none 0 0) (.slice none 0 0) (.slice none 0 0) (.slice none 0 0) (.slice none 0 0)) rfl HF rfl (by have e13 : b.tmps[13]?.getD undef = .agg #[.slice none 0 0, .slice none 0 0, .slice none 0 0, .slice none 0 0, .slice none 0 0, .slice none 0 0, .slice none 0 0, .int .i64 0, .slice none 0 0, .slice none 0 0, .slice none 0 0, .slice none 0 0, .slice none 0 0, .slice none 0 0, .slice none 0 0] := HF.at rfl; have e4 : b.tmps[4]?.getD undef = .pointer (some ⟨w.heap.size, 0, none⟩) := HF.at rfl; go_simp; rfl) ?_
  have HR9 := Aside0.mk (put15_row (a0 := .slice none 0 0) (a1 := .slice none 0 0) (a2 := .slice none 0 0) (a3 := .slice none 0 0) (a4 := .slice none 0 0) (a5 := .slice none 0 0) (a6 := .slice none 0 0) (a7 := .int .i64 0) (a8 := .slice none 0 0) (a9 := .slice none 0 0) (a10 := .slice none 0 0) (a11 := .slice none 0 0) (a12 := .slice none 0 0) (a13 := .slice none 0 0) (a14 := .slice none 0 0) HZ.out)
  have HB9 := Aside0.mk (put15_below (a0 := .slice none 0 0) (a1 := .slice none 0 0) (a2 := .slice none 0 0) (a3 := .slice none 0 0) (a4 := .slice none 0 0) (a5 := .slice none 0 0) (a6 := .slice none 0 0) (a7 := .int .i64 0) (a8 := .slice none 0 0) (a9 := .slice none 0 0) (a10 := .slice none 0 0) (a11 := .slice none 0 0) (a12 := .slice none 0 0) (a13 := .slice none 0 0) (a14 := .slice none 0 0) HB.out (Nat.le_refl _))
  clear y0 z0 y1 z1 y2 z2 y3 z3 y4 z4 y5 z5 y6 z6 y7 z7 y8 z8 y9 z9 y10 z10 y11 z11 y12 z12 y13 z13 y14 z14
  generalize put15 w2 w.heap.size (.slice none 0 0) (.slice none 0 0) (.slice none 0 0) (.slice none 0 0) (.slice none 0 0) (.slice none 0 0) (.slice none 0 0) (.int .i64 0) (.slice none 0 0) (.slice none 0 0) (.slice none 0 0) (.slice none 0 0) (.slice none 0 0) (.slice none 0 0) (.slice none 0 0) = wz at HR9 HB9 ⊢
  refine listF rfl HF rfl (by decide) (v := .bool false) (by go_simp) ?_
  clear HF b
  intro b HF
  show Code.wp _ _ _ _ _
  refine wp_ret ?_
  try simp only [Exit.inBlock, Exit.then]
  refine bodyPost_ret (results_ct rfl _ _ w.heap.size 64 _ _ _ (HF.get (k := 4) rfl) HR9.out Try.underlying64 rfl (by kernel_rfl)) HF.none ?_
  exact ⟨by rw [show b.tmps.getD 5 undef = .bool false from HF.get (k := 5) rfl], HB9.out⟩
set_option maxHeartbeats 2000000 in
set_option maxRecDepth 100000 in
theorem inst_yes {n : Nat} {w : World} {s base : Nat} {x : S64} {U : Option Addr} {e_ : Nat} (hs : Row w s 90 #[.slice none 0 0, .slice none 0 0, .slice none 0 0, .slice none 0 0, .slice U 1 e_]) (hR : k64.R 64 w base (fun _ => True) (.slice U 1 e_) [x]) (hb : Bi n x) :
    Calls Try.prog 18 #[.pointer (some ⟨s, 0, none⟩), .int .i64 0] w fun e w' => ∃ D0 d0 D1 d1 D2 d2 D3 d3 D4 d4 D5 d5 D6 d6 D8 d8 D9 d9 D10 d10 D11 d11 D12 d12 D13 d13 D14 d14, e = .returned (.tuple #[.agg #[.slice D0 x.f0.f0.length d0, .slice D1 x.f0.f1.length d1, .slice D2 x.f0.f2.length d2, .slice D3 x.f0.f3.length d3, .slice D4 x.f0.f4.length d4, .slice D5 x.f0.f5.length d5, .slice D6 x.f0.f6.length d6, .int .i64 x.f0.f7, .slice D8 x.f0.f8.length d8, .slice D9 x.f0.f9.length d9, .slice D10 x.f0.f10.length d10, .slice D11 x.f1.length d11, .slice D12 x.f2.length d12, .slice D13 x.f3.length d13, .slice D14 x.f4.length d14], .bool true]) ∧ k64.M w' w.heap.size (fun _ => True) x [.slice D0 x.f0.f0.length d0, .slice D1 x.f0.f1.length d1, .slice D2 x.f0.f2.length d2, .slice D3 x.f0.f3.length d3, .slice D4 x.f0.f4.length d4, .slice D5 x.f0.f5.length d5, .slice D6 x.f0.f6.length d6, .int .i64 x.f0.f7, .slice D8 x.f0.f8.length d8, .slice D9 x.f0.f9.length d9, .slice D10 x.f0.f10.length d10, .slice D11 x.f1.length d11, .slice D12 x.f2.length d12, .slice D13 x.f3.length d13, .slice D14 x.f4.length d14] ∧ Below w.heap.size w w' := by
  obtain ⟨g, cap, B0, b0, B1, b1, B2, b2, B3, b3, B4, b4, B5, b5, B6, b6, B8, b8, B9, b9, B10, b10, B11, b11, B12, b12, B13, b13, B14, b14, e1, hc, hM⟩ := R64_one hR
  cases e1
  have HC := Aside0.mk hc
  have HK := Aside0.mk (k64.K_of_M hM)
  have HBi := Aside0.mk hb
  clear hc hM hR hb
  obtain ⟨w2, hw2⟩ : ∃ w2, w2 = w.alloc (.cells #[.slice none 0 0, .slice none 0 0, .slice none 0 0, .slice none 0 0, .slice none 0 0, .slice none 0 0, .slice none 0 0, .int .i64 0, .slice none 0 0, .slice none 0 0, .slice none 0 0, .slice none 0 0, .slice none 0 0, .slice none 0 0, .slice none 0 0] 64) := ⟨_, rfl⟩
  have HB := Aside0.mk (show Below w.heap.size w w2 by rw [hw2]; exact below_alloc (Below.refl _ _) _)
  have HZ := Aside0.mk (show Row w2 w.heap.size 64 Z64 by rw [hw2]; exact St.Row.made _ _ _ rfl)
  have HR := Aside0.mk (show Row w2 s 90 #[.slice none 0 0, .slice none 0 0, .slice none 0 0, .slice none 0 0, .slice (some ⟨g, 0, none⟩) 1 e_] by rw [hw2]; exact St.Row.alloc hs _)
  have HL := Aside0.mk hs.lt
  have HW := Aside0.mk hw2
  clear hs hw2
  refine enterF2 Try.func18 rfl Try.ntmps18 (by decide) ?_
  intro b HF
  refine wp_seq ?_
  refine wp_region_lit ?_
  refine listM rfl HF rfl (by decide) (v := .pointer (some ⟨w.heap.size, 0, none⟩)) (w1 := w2) (by rw [HW.out]; go_simp) ?_
  clear HF b
  intro b HF
  refine listF rfl HF rfl (by decide) (v := .bool false) (by go_simp) ?_
  clear HF b
  intro b HF
  show Code.wp _ _ _ _ _
  refine wp_seq ?_
  refine wp_seq ?_
  refine wp_region_lit ?_
  replace HF := HF.sub [(5, .bool false), (4, .pointer (some ⟨w.heap.size, 0, none⟩)), (1, .int .i64 0), (0, .pointer (some ⟨s, 0, none⟩))] (List.forall_mem_cons.2 ⟨rfl, (List.forall_mem_cons.2 ⟨rfl, (List.forall_mem_cons.2 ⟨rfl, (List.forall_mem_cons.2 ⟨rfl, by intro p_ hp_; cases hp_⟩)⟩)⟩)⟩)
  have q4 : w2.cell? ⟨s, 4, none⟩ = some (.slice (some ⟨g, 0, none⟩) 1 e_) := HR.out.cell 4
  refine listF rfl HF rfl (by decide) (v := .pointer (some ⟨s, 0, none⟩)) (by have e0 : b.tmps[0]?.getD undef = .pointer (some ⟨s, 0, none⟩) := HF.at rfl; go_simp) ?_
  clear HF b
  intro b HF
  refine listF rfl HF rfl (by decide) (v := .pointer (some ⟨s, 0, none⟩)) (by have e6 : b.tmps[6]?.getD undef = .pointer (some ⟨s, 0, none⟩) := HF.at rfl; go_simp) ?_
  clear HF b
  intro b HF
  refine listF rfl HF rfl (by decide) (v := .pointer (some ⟨s, 4, none⟩)) (by have e7 : b.tmps[7]?.getD undef = .pointer (some ⟨s, 0, none⟩) := HF.at rfl; go_simp) ?_
  clear HF b
  intro b HF
  refine listF rfl HF rfl (by decide) (v := .slice (some ⟨g, 0, none⟩) 1 e_) (by have e8 : b.tmps[8]?.getD undef = .pointer (some ⟨s, 4, none⟩) := HF.at rfl; go_simp) ?_
  clear HF b
  intro b HF
  refine listF rfl HF rfl (by decide) (v := .int .i64 0) (by have e1 : b.tmps[1]?.getD undef = .int .i64 0 := HF.at rfl; go_simp) ?_
  clear HF b
  intro b HF
  refine listC rfl HF rfl (by decide) (fun K_ hK_ => ?_)
  have e9 : b.tmps[9]?.getD undef = .slice (some ⟨g, 0, none⟩) 1 e_ := HF.at rfl
  have e10 : b.tmps[10]?.getD undef = .int .i64 0 := HF.at rfl
  go_simp
  refine (has_calls w2 (some ⟨g, 0, none⟩) 1 e_ 0).mono ?_
  rintro e wz ⟨rfl, hwz⟩
  rw [hwz, show (decide ((0 : Int) ≤ 0) && decide ((0 : Int) < ((1 : Nat) : Int))) = true from rfl]
  clear hwz wz
  refine hK_.out _ _ ?_
  clear hK_ K_ e9 e10 HF b
  intro b HF
  refine listF rfl HF rfl (by decide) (v := .bool false) (by have e11 : b.tmps[11]?.getD undef = .bool true := HF.at rfl; go_simp) ?_
  clear HF b
  intro b HF
  show Code.wp _ _ _ _ _
  refine wp_cond_false (HF.get rfl) ?_
  refine wp_skip ?_
  show Code.wp _ _ _ _ _
  refine wp_seq ?_
  refine wp_region_lit ?_
  refine listF rfl HF rfl (by decide) (v := .pointer (some ⟨s, 0, none⟩)) (by have e0 : b.tmps[0]?.getD undef = .pointer (some ⟨s, 0, none⟩) := HF.at rfl; go_simp) ?_
  clear HF b
  intro b HF
  refine listF rfl HF rfl (by decide) (v := .pointer (some ⟨s, 0, none⟩)) (by have e14 : b.tmps[14]?.getD undef = .pointer (some ⟨s, 0, none⟩) := HF.at rfl; go_simp) ?_
  clear HF b
  intro b HF
  refine listF rfl HF rfl (by decide) (v := .pointer (some ⟨s, 4, none⟩)) (by have e15 : b.tmps[15]?.getD undef = .pointer (some ⟨s, 0, none⟩) := HF.at rfl; go_simp) ?_
  clear HF b
  intro b HF
  refine listF rfl HF rfl (by decide) (v := .slice (some ⟨g, 0, none⟩) 1 e_) (by have e16 : b.tmps[16]?.getD undef = .pointer (some ⟨s, 4, none⟩) := HF.at rfl; go_simp) ?_
  clear HF b
  intro b HF
  refine listF rfl HF rfl (by decide) (v := .int .i64 0) (by have e1 : b.tmps[1]?.getD undef = .int .i64 0 := HF.at rfl; go_simp) ?_
  clear HF b
  intro b HF
  refine listF rfl HF rfl (by decide) (v := .pointer (some ⟨g, 0, none⟩)) (by have e17 : b.tmps[17]?.getD undef = .slice (some ⟨g, 0, none⟩) 1 e_ := HF.at rfl; have e18 : b.tmps[18]?.getD undef = .int .i64 0 := HF.at rfl; go_simp) ?_
  clear HF b
  intro b HF
  refine listF rfl HF rfl (by decide) (v := .agg #[.slice B0 x.f0.f0.length b0, .slice B1 x.f0.f1.length b1, .slice B2 x.f0.f2.length b2, .slice B3 x.f0.f3.length b3, .slice B4 x.f0.f4.length b4, .slice B5 x.f0.f5.length b5, .slice B6 x.f0.f6.length b6, .int .i64 x.f0.f7, .slice B8 x.f0.f8.length b8, .slice B9 x.f0.f9.length b9, .slice B10 x.f0.f10.length b10, .slice B11 x.f1.length b11, .slice B12 x.f2.length b12, .slice B13 x.f3.length b13, .slice B14 x.f4.length b14]) (by have e19 : b.tmps[19]?.getD undef = .pointer (some ⟨g, 0, none⟩) := HF.at rfl; have c_0 : w2.cell? ⟨g, 0, none⟩ = some (.slice B0 x.f0.f0.length b0) := pw_cell_below HB.out (HC.out 0 _ rfl); have c_1 : w2.cell? ⟨g, 1, none⟩ = some (.slice B1 x.f0.f1.length b1) := pw_cell_below HB.out (HC.out 1 _ rfl); have c_2 : w2.cell? ⟨g, 2, none⟩ = some (.slice B2 x.f0.f2.length b2) := pw_cell_below HB.out (HC.out 2 _ rfl); have c_3 : w2.cell? ⟨g, 3, none⟩ = some (.slice B3 x.f0.f3.length b3) := pw_cell_below HB.out (HC.out 3 _ rfl); have c_4 : w2.cell? ⟨g, 4, none⟩ = some (.slice B4 x.f0.f4.length b4) := pw_cell_below HB.out (HC.out 4 _ rfl); have c_5 : w2.cell? ⟨g, 5, none⟩ = some (.slice B5 x.f0.f5.length b5) := pw_cell_below HB.out (HC.out 5 _ rfl); have c_6 : w2.cell? ⟨g, 6, none⟩ = some (.slice B6 x.f0.f6.length b6) := pw_cell_below HB.out (HC.out 6 _ rfl); have c_7 : w2.cell? ⟨g, 7, none⟩ = some (.int .i64 x.f0.f7) := pw_cell_below HB.out (HC.out 7 _ rfl); have c_8 : w2.cell? ⟨g, 8, none⟩ = some (.slice B8 x.f0.f8.length b8) := pw_cell_below HB.out (HC.out 8 _ rfl); have c_9 : w2.cell? ⟨g, 9, none⟩ = some (.slice B9 x.f0.f9.length b9) := pw_cell_below HB.out (HC.out 9 _ rfl); have c_10 : w2.cell? ⟨g, 10, none⟩ = some (.slice B10 x.f0.f10.length b10) := pw_cell_below HB.out (HC.out 10 _ rfl); have c_11 : w2.cell? ⟨g, 11, none⟩ = some (.slice B11 x.f1.length b11) := pw_cell_below HB.out (HC.out 11 _ rfl); have c_12 : w2.cell? ⟨g, 12, none⟩ = some (.slice B12 x.f2.length b12) := pw_cell_below HB.out (HC.out 12 _ rfl); have c_13 : w2.cell? ⟨g, 13, none⟩ = some (.slice B13 x.f3.length b13) := pw_cell_below HB.out (HC.out 13 _ rfl); have c_14 : w2.cell? ⟨g, 14, none⟩ = some (.slice B14 x.f4.length b14) := pw_cell_below HB.out (HC.out 14 _ rfl); go_simp) ?_
  clear HF b
  intro b HF
  clear q4
  refine listC rfl HF rfl (by decide) (fun K_ hK_ => ?_)
  have e20 : b.tmps[20]?.getD undef = .agg #[.slice B0 x.f0.f0.length b0, .slice B1 x.f0.f1.length b1, .slice B2 x.f0.f2.length b2, .slice B3 x.f0.f3.length b3, .slice B4 x.f0.f4.length b4, .slice B5 x.f0.f5.length b5, .slice B6 x.f0.f6.length b6, .int .i64 x.f0.f7, .slice B8 x.f0.f8.length b8, .slice B9 x.f0.f9.length b9, .slice B10 x.f0.f10.length b10, .slice B11 x.f1.length b11, .slice B12 x.f2.length b12, .slice B13 x.f3.length b13, .slice B14 x.f4.length b14] := HF.at rfl
  go_simp
  clear e20
  refine (copied_calls (k64.K_below HB.out HK.out) HBi.out).mono ?_
  rintro e w4 ⟨D0, d0, D1, d1, D2, d2, D3, d3, D4, d4, D5, d5, D6, d6, D8, d8, D9, d9, D10, d10, D11, d11, D12, d12, D13, d13, D14, d14, rfl, hM, hb_⟩
  replace HZ := Aside0.mk (HZ.out.below hb_ HZ.out.lt)
  have HM := Aside0.mk hM
  have HS := Aside0.mk HB.out.size
  have HN := Aside0.mk (show w.heap.size < w2.heap.size by rw [HW.out]; simp)
  replace HB := Aside0.mk (HB.out.trans (St.below_mono hb_ HB.out.size))
  refine hK_.out _ _ ?_
  clear hK_ K_ hM hb_ HF b
  intro b HF
  have y0 : w4.cell? ⟨w.heap.size, 0, none⟩ = some (.slice none 0 0) := HZ.out.cell 0; have z0 := HZ.out.frozen 0
  have y1 : w4.cell? ⟨w.heap.size, 1, none⟩ = some (.slice none 0 0) := HZ.out.cell 1; have z1 := HZ.out.frozen 1
  have y2 : w4.cell? ⟨w.heap.size, 2, none⟩ = some (.slice none 0 0) := HZ.out.cell 2; have z2 := HZ.out.frozen 2
  have y3 : w4.cell? ⟨w.heap.size, 3, none⟩ = some (.slice none 0 0) := HZ.out.cell 3; have z3 := HZ.out.frozen 3
  have y4 : w4.cell? ⟨w.heap.size, 4, none⟩ = some (.slice none 0 0) := HZ.out.cell 4; have z4 := HZ.out.frozen 4
  have y5 : w4.cell? ⟨w.heap.size, 5, none⟩ = some (.slice none 0 0) := HZ.out.cell 5; have z5 := HZ.out.frozen 5
  have y6 : w4.cell? ⟨w.heap.size, 6, none⟩ = some (.slice none 0 0) := HZ.out.cell 6; have z6 := HZ.out.frozen 6
  have y7 : w4.cell? ⟨w.heap.size, 7, none⟩ = some (.int .i64 0) := HZ.out.cell 7; have z7 := HZ.out.frozen 7
  have y8 : w4.cell? ⟨w.heap.size, 8, none⟩ = some (.slice none 0 0) := HZ.out.cell 8; have z8 := HZ.out.frozen 8
  have y9 : w4.cell? ⟨w.heap.size, 9, none⟩ = some (.slice none 0 0) := HZ.out.cell 9; have z9 := HZ.out.frozen 9
  have y10 : w4.cell? ⟨w.heap.size, 10, none⟩ = some (.slice none 0 0) := HZ.out.cell 10; have z10 := HZ.out.frozen 10
  have y11 : w4.cell? ⟨w.heap.size, 11, none⟩ = some (.slice none 0 0) := HZ.out.cell 11; have z11 := HZ.out.frozen 11
  have y12 : w4.cell? ⟨w.heap.size, 12, none⟩ = some (.slice none 0 0) := HZ.out.cell 12; have z12 := HZ.out.frozen 12
  have y13 : w4.cell? ⟨w.heap.size, 13, none⟩ = some (.slice none 0 0) := HZ.out.cell 13; have z13 := HZ.out.frozen 13
  have y14 : w4.cell? ⟨w.heap.size, 14, none⟩ = some (.slice none 0 0) := HZ.out.cell 14; have z14 := HZ.out.frozen 14
  refine listS (w1 := put15 w4 w.heap.size (.slice D0 x.f0.f0.length d0) (.slice D1 x.f0.f1.length d1) (.slice D2 x.f0.f2.length d2) (.slice D3 x.f0.f3.length d3) (.slice D4 x.f0.f4.length d4) (.slice D5 x.f0.f5.length d5) (.slice D6 x.f0.f6.length d6) (.int .i64 x.f0.f7) (.slice D8 x.f0.f8.length d8) (.slice D9 x.f0.f9.length d9) (.slice D10 x.f0.f10.length d10) (.slice D11 x.f1.length d11) (.slice D12 x.f2.length d12) (.slice D13 x.f3.length d13) (.slice D14 x.f4.length d14)) rfl HF rfl (by have e21 : b.tmps[21]?.getD undef = .agg #[.slice D0 x.f0.f0.length d0, .slice D1 x.f0.f1.length d1, .slice D2 x.f0.f2.length d2, .slice D3 x.f0.f3.length d3, .slice D4 x.f0.f4.length d4, .slice D5 x.f0.f5.length d5, .slice D6 x.f0.f6.length d6, .int .i64 x.f0.f7, .slice D8 x.f0.f8.length d8, .slice D9 x.f0.f9.length d9, .slice D10 x.f0.f10.length d10, .slice D11 x.f1.length d11, .slice D12 x.f2.length d12, .slice D13 x.f3.length d13, .slice D14 x.f4.length d14] := HF.at rfl; have e4 : b.tmps[4]?.getD undef = .pointer (some ⟨w.heap.size, 0, none⟩) := HF.at rfl; go_simp; rfl) ?_
  have HR9 := Aside0.mk (put15_row (a0 := .slice D0 x.f0.f0.length d0) (a1 := .slice D1 x.f0.f1.length d1) (a2 := .slice D2 x.f0.f2.length d2) (a3 := .slice D3 x.f0.f3.length d3) (a4 := .slice D4 x.f0.f4.length d4) (a5 := .slice D5 x.f0.f5.length d5) (a6 := .slice D6 x.f0.f6.length d6) (a7 := .int .i64 x.f0.f7) (a8 := .slice D8 x.f0.f8.length d8) (a9 := .slice D9 x.f0.f9.length d9) (a10 := .slice D10 x.f0.f10.length d10) (a11 := .slice D11 x.f1.length d11) (a12 := .slice D12 x.f2.length d12) (a13 := .slice D13 x.f3.length d13) (a14 := .slice D14 x.f4.length d14) HZ.out)
  have HB9 := Aside0.mk (put15_below (a0 := .slice D0 x.f0.f0.length d0) (a1 := .slice D1 x.f0.f1.length d1) (a2 := .slice D2 x.f0.f2.length d2) (a3 := .slice D3 x.f0.f3.length d3) (a4 := .slice D4 x.f0.f4.length d4) (a5 := .slice D5 x.f0.f5.length d5) (a6 := .slice D6 x.f0.f6.length d6) (a7 := .int .i64 x.f0.f7) (a8 := .slice D8 x.f0.f8.length d8) (a9 := .slice D9 x.f0.f9.length d9) (a10 := .slice D10 x.f0.f10.length d10) (a11 := .slice D11 x.f1.length d11) (a12 := .slice D12 x.f2.length d12) (a13 := .slice D13 x.f3.length d13) (a14 := .slice D14 x.f4.length d14) HB.out (Nat.le_refl _))
  have HM9 := Aside0.mk (show k64.M (put15 w4 w.heap.size (.slice D0 x.f0.f0.length d0) (.slice D1 x.f0.f1.length d1) (.slice D2 x.f0.f2.length d2) (.slice D3 x.f0.f3.length d3) (.slice D4 x.f0.f4.length d4) (.slice D5 x.f0.f5.length d5) (.slice D6 x.f0.f6.length d6) (.int .i64 x.f0.f7) (.slice D8 x.f0.f8.length d8) (.slice D9 x.f0.f9.length d9) (.slice D10 x.f0.f10.length d10) (.slice D11 x.f1.length d11) (.slice D12 x.f2.length d12) (.slice D13 x.f3.length d13) (.slice D14 x.f4.length d14)) w.heap.size (fun _ => True) x [.slice D0 x.f0.f0.length d0, .slice D1 x.f0.f1.length d1, .slice D2 x.f0.f2.length d2, .slice D3 x.f0.f3.length d3, .slice D4 x.f0.f4.length d4, .slice D5 x.f0.f5.length d5, .slice D6 x.f0.f6.length d6, .int .i64 x.f0.f7, .slice D8 x.f0.f8.length d8, .slice D9 x.f0.f9.length d9, .slice D10 x.f0.f10.length d10, .slice D11 x.f1.length d11, .slice D12 x.f2.length d12, .slice D13 x.f3.length d13, .slice D14 x.f4.length d14] from k64.M_mono (fun _ _ => trivial) (k64.M_lower HS.out (Kd.M_step (k64.M_bound HM.out) (fun k hk _ => put15_off k (by have := hk.2.1; have := HN.out; omega)))))
  clear y0 z0 y1 z1 y2 z2 y3 z3 y4 z4 y5 z5 y6 z6 y7 z7 y8 z8 y9 z9 y10 z10 y11 z11 y12 z12 y13 z13 y14 z14 HM
  generalize put15 w4 w.heap.size (.slice D0 x.f0.f0.length d0) (.slice D1 x.f0.f1.length d1) (.slice D2 x.f0.f2.length d2) (.slice D3 x.f0.f3.length d3) (.slice D4 x.f0.f4.length d4) (.slice D5 x.f0.f5.length d5) (.slice D6 x.f0.f6.length d6) (.int .i64 x.f0.f7) (.slice D8 x.f0.f8.length d8) (.slice D9 x.f0.f9.length d9) (.slice D10 x.f0.f10.length d10) (.slice D11 x.f1.length d11) (.slice D12 x.f2.length d12) (.slice D13 x.f3.length d13) (.slice D14 x.f4.length d14) = wz at HR9 HB9 HM9 ⊢
  refine listF rfl HF rfl (by decide) (v := .bool true) (by go_simp) ?_
  clear HF b
  intro b HF
  show Code.wp _ _ _ _ _
  refine wp_ret ?_
  try simp only [Exit.inBlock, Exit.then]
  refine bodyPost_ret (results_ct rfl _ _ w.heap.size 64 _ _ _ (HF.get (k := 4) rfl) HR9.out Try.underlying64 rfl (by kernel_rfl)) HF.none ?_
  exact ⟨D0, d0, D1, d1, D2, d2, D3, d3, D4, d4, D5, d5, D6, d6, D8, d8, D9, d9, D10, d10, D11, d11, D12, d12, D13, d13, D14, d14, by rw [show b.tmps.getD 5 undef = .bool true from HF.get (k := 5) rfl], HM9.out, HB9.out⟩
end Go.Proofs.Ytbelijoggbblgaa.Ex
