/- The program's copy of an instance: all of it in new memory, and the same. Printed by the program mkex7.py. -/
import Derived.Test.YtbelijoggbblgaaEx6
namespace Go.Proofs.Ytbelijoggbblgaa.Ex
open Go.RowKit Go.Proofs.YtbelijoggbblgaaW.PrintWords Go.Proofs.YtbelijoggbblgaaW.PrintLast Go.Proofs.Ytbelijoggbblgaa.RStoreExports Go.Proofs.Ytbelijoggbblgaa.Man
set_option linter.unusedVariables false
set_option linter.unusedSimpArgs false
abbrev Z64 : Array Value := #[.slice none 0 0, .slice none 0 0, .slice none 0 0, .slice none 0 0, .slice none 0 0, .slice none 0 0, .slice none 0 0, .int .i64 0, .slice none 0 0, .slice none 0 0, .slice none 0 0, .slice none 0 0, .slice none 0 0, .slice none 0 0, .slice none 0 0]
/-- A machine's memory holds an instance's lists. -/
structure Bi (n : Nat) (x : S64) : Prop where
  m : Bm n x.f0
  h1 : x.f1.length * 8 ≤ 140737488351232
  h2 : x.f2.length * 8 ≤ 140737488351232
  h3 : x.f3.length * 8 ≤ 140737488351232
  h4 : x.f4.length * 8 ≤ 140737488351232
def put15 (w : World) (g : Nat) (a0 a1 a2 a3 a4 a5 a6 a7 a8 a9 a10 a11 a12 a13 a14 : Value) : World := (((((((((((((((w.setCell ⟨g, 0, none⟩ a0).setCell ⟨g, 1, none⟩ a1).setCell ⟨g, 2, none⟩ a2).setCell ⟨g, 3, none⟩ a3).setCell ⟨g, 4, none⟩ a4).setCell ⟨g, 5, none⟩ a5).setCell ⟨g, 6, none⟩ a6).setCell ⟨g, 7, none⟩ a7).setCell ⟨g, 8, none⟩ a8).setCell ⟨g, 9, none⟩ a9).setCell ⟨g, 10, none⟩ a10).setCell ⟨g, 11, none⟩ a11).setCell ⟨g, 12, none⟩ a12).setCell ⟨g, 13, none⟩ a13).setCell ⟨g, 14, none⟩ a14)
theorem put15_row {w : World} {g : Nat} {t : TypeId} {a0 a1 a2 a3 a4 a5 a6 a7 a8 a9 a10 a11 a12 a13 a14 z0 z1 z2 z3 z4 z5 z6 z7 z8 z9 z10 z11 z12 z13 z14 : Value} (h : Row w g t #[z0, z1, z2, z3, z4, z5, z6, z7, z8, z9, z10, z11, z12, z13, z14]) : Row (put15 w g a0 a1 a2 a3 a4 a5 a6 a7 a8 a9 a10 a11 a12 a13 a14) g t #[a0, a1, a2, a3, a4, a5, a6, a7, a8, a9, a10, a11, a12, a13, a14] := by
  unfold put15
  replace h : Row _ g t #[a0, z1, z2, z3, z4, z5, z6, z7, z8, z9, z10, z11, z12, z13, z14] := h.put_ 0 a0
  replace h : Row _ g t #[a0, a1, z2, z3, z4, z5, z6, z7, z8, z9, z10, z11, z12, z13, z14] := h.put_ 1 a1
  replace h : Row _ g t #[a0, a1, a2, z3, z4, z5, z6, z7, z8, z9, z10, z11, z12, z13, z14] := h.put_ 2 a2
  replace h : Row _ g t #[a0, a1, a2, a3, z4, z5, z6, z7, z8, z9, z10, z11, z12, z13, z14] := h.put_ 3 a3
  replace h : Row _ g t #[a0, a1, a2, a3, a4, z5, z6, z7, z8, z9, z10, z11, z12, z13, z14] := h.put_ 4 a4
  replace h : Row _ g t #[a0, a1, a2, a3, a4, a5, z6, z7, z8, z9, z10, z11, z12, z13, z14] := h.put_ 5 a5
  replace h : Row _ g t #[a0, a1, a2, a3, a4, a5, a6, z7, z8, z9, z10, z11, z12, z13, z14] := h.put_ 6 a6
  replace h : Row _ g t #[a0, a1, a2, a3, a4, a5, a6, a7, z8, z9, z10, z11, z12, z13, z14] := h.put_ 7 a7
  replace h : Row _ g t #[a0, a1, a2, a3, a4, a5, a6, a7, a8, z9, z10, z11, z12, z13, z14] := h.put_ 8 a8
  replace h : Row _ g t #[a0, a1, a2, a3, a4, a5, a6, a7, a8, a9, z10, z11, z12, z13, z14] := h.put_ 9 a9
  replace h : Row _ g t #[a0, a1, a2, a3, a4, a5, a6, a7, a8, a9, a10, z11, z12, z13, z14] := h.put_ 10 a10
  replace h : Row _ g t #[a0, a1, a2, a3, a4, a5, a6, a7, a8, a9, a10, a11, z12, z13, z14] := h.put_ 11 a11
  replace h : Row _ g t #[a0, a1, a2, a3, a4, a5, a6, a7, a8, a9, a10, a11, a12, z13, z14] := h.put_ 12 a12
  replace h : Row _ g t #[a0, a1, a2, a3, a4, a5, a6, a7, a8, a9, a10, a11, a12, a13, z14] := h.put_ 13 a13
  replace h : Row _ g t #[a0, a1, a2, a3, a4, a5, a6, a7, a8, a9, a10, a11, a12, a13, a14] := h.put_ 14 a14
  exact h
theorem put15_off {w : World} {g : Nat} {a0 a1 a2 a3 a4 a5 a6 a7 a8 a9 a10 a11 a12 a13 a14 : Value} (k : Nat) (h : k ≠ g) : (put15 w g a0 a1 a2 a3 a4 a5 a6 a7 a8 a9 a10 a11 a12 a13 a14).heap[k]? = w.heap[k]? := by
  unfold put15
  have e := fun (w : World) (i : Nat) (u : Value) => Below.heap_setCell w ⟨g, i, none⟩ u k h
  rw [e, e, e, e, e, e, e, e, e, e, e, e, e, e, e]
theorem put15_below {B : Nat} {a w : World} {g : Nat} {a0 a1 a2 a3 a4 a5 a6 a7 a8 a9 a10 a11 a12 a13 a14 : Value} (h : Below B a w) (hg : B ≤ g) : Below B a (put15 w g a0 a1 a2 a3 a4 a5 a6 a7 a8 a9 a10 a11 a12 a13 a14) := by
  unfold put15
  exact (((((((((((((((h.setCell (p := ⟨g, 0, none⟩) hg a0).setCell (p := ⟨g, 1, none⟩) hg a1).setCell (p := ⟨g, 2, none⟩) hg a2).setCell (p := ⟨g, 3, none⟩) hg a3).setCell (p := ⟨g, 4, none⟩) hg a4).setCell (p := ⟨g, 5, none⟩) hg a5).setCell (p := ⟨g, 6, none⟩) hg a6).setCell (p := ⟨g, 7, none⟩) hg a7).setCell (p := ⟨g, 8, none⟩) hg a8).setCell (p := ⟨g, 9, none⟩) hg a9).setCell (p := ⟨g, 10, none⟩) hg a10).setCell (p := ⟨g, 11, none⟩) hg a11).setCell (p := ⟨g, 12, none⟩) hg a12).setCell (p := ⟨g, 13, none⟩) hg a13).setCell (p := ⟨g, 14, none⟩) hg a14)
theorem module_copy' {n : Nat} {w : World} {m : S61} {cs : List Value} (h : k61.K w m cs) (hb : Bm n m) : Calls Try.prog 44 #[.agg cs.toArray] w fun e w' => ∃ D0 d0 D1 d1 D2 d2 D3 d3 D4 d4 D5 d5 D6 d6 D8 d8 D9 d9 D10 d10, e = .returned (.agg #[.slice D0 m.f0.length d0, .slice D1 m.f1.length d1, .slice D2 m.f2.length d2, .slice D3 m.f3.length d3, .slice D4 m.f4.length d4, .slice D5 m.f5.length d5, .slice D6 m.f6.length d6, .int .i64 m.f7, .slice D8 m.f8.length d8, .slice D9 m.f9.length d9, .slice D10 m.f10.length d10]) ∧ k61.M w' w.heap.size (fun _ => True) m [.slice D0 m.f0.length d0, .slice D1 m.f1.length d1, .slice D2 m.f2.length d2, .slice D3 m.f3.length d3, .slice D4 m.f4.length d4, .slice D5 m.f5.length d5, .slice D6 m.f6.length d6, .int .i64 m.f7, .slice D8 m.f8.length d8, .slice D9 m.f9.length d9, .slice D10 m.f10.length d10] ∧ Below w.heap.size w w' := by
  refine (module_copy h hb).mono ?_
  rintro e w' ⟨cs', rfl, hM, hB⟩
  obtain ⟨v0, v1, v2, v3, v4, v5, v6, v8, v9, v10, rfl, r0, r1, r2, r3, r4, r5, r6, r8, r9, r10⟩ := k61_openM hM
  obtain ⟨D0, d0, rfl⟩ := Kd.R_slice r0
  obtain ⟨D1, d1, rfl⟩ := Kd.R_slice r1
  obtain ⟨D2, d2, rfl⟩ := Kd.R_slice r2
  obtain ⟨D3, d3, rfl⟩ := Kd.R_slice r3
  obtain ⟨D4, d4, rfl⟩ := Kd.R_slice r4
  obtain ⟨D5, d5, rfl⟩ := Kd.R_slice r5
  obtain ⟨D6, d6, rfl⟩ := Kd.R_slice r6
  obtain ⟨D8, d8, rfl⟩ := Kd.R_slice r8
  obtain ⟨D9, d9, rfl⟩ := Kd.R_slice r9
  obtain ⟨D10, d10, rfl⟩ := Kd.R_slice r10
  exact ⟨D0, d0, D1, d1, D2, d2, D3, d3, D4, d4, D5, d5, D6, d6, D8, d8, D9, d9, D10, d10, rfl, hM, hB⟩
set_option maxHeartbeats 4000000 in
set_option maxRecDepth 100000 in
theorem copied_calls {n : Nat} {w : World} {x : S64} {cs : List Value} (h : k64.K w x cs) (hb : Bi n x) : Calls Try.prog 28 #[.agg cs.toArray] w fun e w' => ∃ D0 d0 D1 d1 D2 d2 D3 d3 D4 d4 D5 d5 D6 d6 D8 d8 D9 d9 D10 d10 D11 d11 D12 d12 D13 d13 D14 d14, e = .returned (.agg #[.slice D0 x.f0.f0.length d0, .slice D1 x.f0.f1.length d1, .slice D2 x.f0.f2.length d2, .slice D3 x.f0.f3.length d3, .slice D4 x.f0.f4.length d4, .slice D5 x.f0.f5.length d5, .slice D6 x.f0.f6.length d6, .int .i64 x.f0.f7, .slice D8 x.f0.f8.length d8, .slice D9 x.f0.f9.length d9, .slice D10 x.f0.f10.length d10, .slice D11 x.f1.length d11, .slice D12 x.f2.length d12, .slice D13 x.f3.length d13, .slice D14 x.f4.length d14]) ∧ k64.M w' w.heap.size (fun _ => True) x [.slice D0 x.f0.f0.length d0, .slice D1 x.f0.f1.length d1, .slice D2 x.f0.f2.length d2, .slice D3 x.f0.f3.length d3, .slice D4 x.f0.f4.length d4, .slice D5 x.f0.f5.length d5, .slice D6 x.f0.f6.length d6, .int .i64 x.f0.f7, .slice D8 x.f0.f8.length d8, .slice D9 x.f0.f9.length d9, .slice D10 x.f0.f10.length d10, .slice D11 x.f1.length d11, .slice D12 x.f2.length d12, .slice D13 x.f3.length d13, .slice D14 x.f4.length d14] ∧ Below w.heap.size w w' := by
  obtain ⟨A0, c0, A1, c1, A2, c2, A3, c3, A4, c4, A5, c5, A6, c6, A8, c8, A9, c9, A10, c10, A11, c11, A12, c12, A13, c13, A14, c14, rfl, l0, g0, l1, g1, l2, g2, l3, g3, l4, g4, l5, g5, l6, g6, l8, g8, l9, g9, l10, g10, l11, g11, l12, g12, l13, g13, l14, g14⟩ := k64_open h
  have HM0 := Aside0.mk (k61_mk w x.f0 l0 g0 l1 g1 l2 g2 l3 g3 l4 g4 l5 g5 l6 g6 l8 g8 l9 g9 l10 g10)
  have G11 := Aside0.mk g11; have L11 := Aside0.mk l11
  have G12 := Aside0.mk g12; have L12 := Aside0.mk l12
  have G13 := Aside0.mk g13; have L13 := Aside0.mk l13
  have G14 := Aside0.mk g14; have L14 := Aside0.mk l14
  have HBi := Aside0.mk hb
  obtain ⟨w2, hw2⟩ : ∃ w2, w2 = (w.alloc (.cells #[.slice A0 x.f0.f0.length c0, .slice A1 x.f0.f1.length c1, .slice A2 x.f0.f2.length c2, .slice A3 x.f0.f3.length c3, .slice A4 x.f0.f4.length c4, .slice A5 x.f0.f5.length c5, .slice A6 x.f0.f6.length c6, .int .i64 x.f0.f7, .slice A8 x.f0.f8.length c8, .slice A9 x.f0.f9.length c9, .slice A10 x.f0.f10.length c10, .slice A11 x.f1.length c11, .slice A12 x.f2.length c12, .slice A13 x.f3.length c13, .slice A14 x.f4.length c14] 64)).alloc (.cells #[.slice none 0 0, .slice none 0 0, .slice none 0 0, .slice none 0 0, .slice none 0 0, .slice none 0 0, .slice none 0 0, .int .i64 0, .slice none 0 0, .slice none 0 0, .slice none 0 0, .slice none 0 0, .slice none 0 0, .slice none 0 0, .slice none 0 0] 64) := ⟨_, rfl⟩
  have hB2 : Below w.heap.size w w2 := by rw [hw2]; exact below_alloc (below_alloc (Below.refl _ _) _) _
  have hx2 : Row w2 w.heap.size 64 #[.slice A0 x.f0.f0.length c0, .slice A1 x.f0.f1.length c1, .slice A2 x.f0.f2.length c2, .slice A3 x.f0.f3.length c3, .slice A4 x.f0.f4.length c4, .slice A5 x.f0.f5.length c5, .slice A6 x.f0.f6.length c6, .int .i64 x.f0.f7, .slice A8 x.f0.f8.length c8, .slice A9 x.f0.f9.length c9, .slice A10 x.f0.f10.length c10, .slice A11 x.f1.length c11, .slice A12 x.f2.length c12, .slice A13 x.f3.length c13, .slice A14 x.f4.length c14] := by rw [hw2]; exact St.Row.alloc (St.Row.made _ _ _ rfl) _
  have hz2 : Row w2 (w.heap.size + 1) 64 Z64 := by rw [hw2]; exact St.Row.made _ _ _ (by simp)
  have hs2 : w2.heap.size = w.heap.size + 2 := by rw [hw2]; simp
  have HB := Aside0.mk hB2.drew
  have HX := Aside0.mk (show Row w2.drew w.heap.size 64 #[.slice A0 x.f0.f0.length c0, .slice A1 x.f0.f1.length c1, .slice A2 x.f0.f2.length c2, .slice A3 x.f0.f3.length c3, .slice A4 x.f0.f4.length c4, .slice A5 x.f0.f5.length c5, .slice A6 x.f0.f6.length c6, .int .i64 x.f0.f7, .slice A8 x.f0.f8.length c8, .slice A9 x.f0.f9.length c9, .slice A10 x.f0.f10.length c10, .slice A11 x.f1.length c11, .slice A12 x.f2.length c12, .slice A13 x.f3.length c13, .slice A14 x.f4.length c14] from hx2)
  have HZ := Aside0.mk (show Row w2.drew (w.heap.size + 1) 64 Z64 from hz2)
  have HS := Aside0.mk (show w.heap.size + 2 ≤ w2.drew.heap.size by rw [show w2.drew.heap.size = w2.heap.size from rfl, hs2]; exact Nat.le_refl _)
  clear h hb l0 g0 l1 g1 l2 g2 l3 g3 l4 g4 l5 g5 l6 g6 l8 g8 l9 g9 l10 g10 l11 g11 l12 g12 l13 g13 l14 g14 hB2 hx2 hz2 hs2
  go_enter Try.func28, Try.ntmps28
  go_upto_region 1 with fail
  rw [← hw2]
  clear hw2
  refine wp_region_heldP (fun j_ w' => [1, 2, 4, 5, 7, 8, 10, 11, 13, 14, 15].contains j_ = true → Row w' w.heap.size 64 #[.slice A0 x.f0.f0.length c0, .slice A1 x.f0.f1.length c1, .slice A2 x.f0.f2.length c2, .slice A3 x.f0.f3.length c3, .slice A4 x.f0.f4.length c4, .slice A5 x.f0.f5.length c5, .slice A6 x.f0.f6.length c6, .int .i64 x.f0.f7, .slice A8 x.f0.f8.length c8, .slice A9 x.f0.f9.length c9, .slice A10 x.f0.f10.length c10, .slice A11 x.f1.length c11, .slice A12 x.f2.length c12, .slice A13 x.f3.length c13, .slice A14 x.f4.length c14]) (by kernel_rfl) ?_
  simp only [List.size_toArray, List.length_cons, List.length_nil, Nat.zero_add, Nat.reduceAdd, Array.replicate, List.replicate]
  obtain ⟨w3, hw3⟩ : ∃ w3, w3 = w2.drew := ⟨_, rfl⟩
  rw [← hw3] at HB HX HZ HS ⊢
  clear hw3
  refine wpAnyP_take' (fun _ => True) (fun _ => true) 0 (.pointer (some ⟨w.heap.size, 0, none⟩)) rfl (by kernel_rfl) (by kernel_rfl) (by kernel_rfl) (fun _ _ _ h => h) (by kernel_rfl) (fun _ _ _ _ => trivial) (fun _ _ hj => absurd hj (by decide)) (by rfl) (by intro wq _; go_simp) trivial ?_
  simp only [Act.put, List.setIfInBounds_toArray, List.set_cons_zero, List.set_cons_succ]
  refine wpAnyP_take' (fun _ => True) (fun _ => true) 3 (.pointer (some ⟨w.heap.size, 11, none⟩)) rfl (by kernel_rfl) (by kernel_rfl) (by kernel_rfl) (fun _ _ _ h => h) (by kernel_rfl) (fun _ _ _ _ => trivial) (fun _ _ hj => absurd hj (by decide)) (by rfl) (by intro wq _; go_simp) trivial ?_
  simp only [Act.put, List.setIfInBounds_toArray, List.set_cons_zero, List.set_cons_succ]
  refine wpAnyP_take' (fun _ => True) (fun _ => true) 6 (.pointer (some ⟨w.heap.size, 12, none⟩)) rfl (by kernel_rfl) (by kernel_rfl) (by kernel_rfl) (fun _ _ _ h => h) (by kernel_rfl) (fun _ _ _ _ => trivial) (fun _ _ hj => absurd hj (by decide)) (by rfl) (by intro wq _; go_simp) trivial ?_
  simp only [Act.put, List.setIfInBounds_toArray, List.set_cons_zero, List.set_cons_succ]
  refine wpAnyP_take' (fun _ => True) (fun _ => true) 9 (.pointer (some ⟨w.heap.size, 13, none⟩)) rfl (by kernel_rfl) (by kernel_rfl) (by kernel_rfl) (fun _ _ _ h => h) (by kernel_rfl) (fun _ _ _ _ => trivial) (fun _ _ hj => absurd hj (by decide)) (by rfl) (by intro wq _; go_simp) trivial ?_
  simp only [Act.put, List.setIfInBounds_toArray, List.set_cons_zero, List.set_cons_succ]
  refine wpAnyP_take' (fun _ => True) (fun _ => true) 12 (.pointer (some ⟨w.heap.size, 14, none⟩)) rfl (by kernel_rfl) (by kernel_rfl) (by kernel_rfl) (fun _ _ _ h => h) (by kernel_rfl) (fun _ _ _ _ => trivial) (fun _ _ hj => absurd hj (by decide)) (by rfl) (by intro wq _; go_simp) trivial ?_
  simp only [Act.put, List.setIfInBounds_toArray, List.set_cons_zero, List.set_cons_succ]
  refine wpAnyP_take' (fun w' => Row w' w.heap.size 64 #[.slice A0 x.f0.f0.length c0, .slice A1 x.f0.f1.length c1, .slice A2 x.f0.f2.length c2, .slice A3 x.f0.f3.length c3, .slice A4 x.f0.f4.length c4, .slice A5 x.f0.f5.length c5, .slice A6 x.f0.f6.length c6, .int .i64 x.f0.f7, .slice A8 x.f0.f8.length c8, .slice A9 x.f0.f9.length c9, .slice A10 x.f0.f10.length c10, .slice A11 x.f1.length c11, .slice A12 x.f2.length c12, .slice A13 x.f3.length c13, .slice A14 x.f4.length c14]) (fun j_ => [1, 2, 4, 5, 7, 8, 10, 11, 13, 14, 15].contains j_) 1 (.agg #[.slice A0 x.f0.f0.length c0, .slice A1 x.f0.f1.length c1, .slice A2 x.f0.f2.length c2, .slice A3 x.f0.f3.length c3, .slice A4 x.f0.f4.length c4, .slice A5 x.f0.f5.length c5, .slice A6 x.f0.f6.length c6, .int .i64 x.f0.f7, .slice A8 x.f0.f8.length c8, .slice A9 x.f0.f9.length c9, .slice A10 x.f0.f10.length c10]) rfl (by kernel_rfl) (by kernel_rfl) (by kernel_rfl) (fun _ _ _ h => h) (by kernel_rfl) (fun j_ hj _ h => h hj) (fun _ h _ => h) (by rfl) (by intro wq hq; have q_0 : wq.cell? ⟨w.heap.size, 0, none⟩ = some (.slice A0 x.f0.f0.length c0) := hq.cell 0; have q_1 : wq.cell? ⟨w.heap.size, 1, none⟩ = some (.slice A1 x.f0.f1.length c1) := hq.cell 1; have q_2 : wq.cell? ⟨w.heap.size, 2, none⟩ = some (.slice A2 x.f0.f2.length c2) := hq.cell 2; have q_3 : wq.cell? ⟨w.heap.size, 3, none⟩ = some (.slice A3 x.f0.f3.length c3) := hq.cell 3; have q_4 : wq.cell? ⟨w.heap.size, 4, none⟩ = some (.slice A4 x.f0.f4.length c4) := hq.cell 4; have q_5 : wq.cell? ⟨w.heap.size, 5, none⟩ = some (.slice A5 x.f0.f5.length c5) := hq.cell 5; have q_6 : wq.cell? ⟨w.heap.size, 6, none⟩ = some (.slice A6 x.f0.f6.length c6) := hq.cell 6; have q_7 : wq.cell? ⟨w.heap.size, 7, none⟩ = some (.int .i64 x.f0.f7) := hq.cell 7; have q_8 : wq.cell? ⟨w.heap.size, 8, none⟩ = some (.slice A8 x.f0.f8.length c8) := hq.cell 8; have q_9 : wq.cell? ⟨w.heap.size, 9, none⟩ = some (.slice A9 x.f0.f9.length c9) := hq.cell 9; have q_10 : wq.cell? ⟨w.heap.size, 10, none⟩ = some (.slice A10 x.f0.f10.length c10) := hq.cell 10; go_simp) HX.out ?_
  simp only [Act.put, List.setIfInBounds_toArray, List.set_cons_zero, List.set_cons_succ]
  refine wpAnyP_take' (fun w' => Row w' w.heap.size 64 #[.slice A0 x.f0.f0.length c0, .slice A1 x.f0.f1.length c1, .slice A2 x.f0.f2.length c2, .slice A3 x.f0.f3.length c3, .slice A4 x.f0.f4.length c4, .slice A5 x.f0.f5.length c5, .slice A6 x.f0.f6.length c6, .int .i64 x.f0.f7, .slice A8 x.f0.f8.length c8, .slice A9 x.f0.f9.length c9, .slice A10 x.f0.f10.length c10, .slice A11 x.f1.length c11, .slice A12 x.f2.length c12, .slice A13 x.f3.length c13, .slice A14 x.f4.length c14]) (fun j_ => [1, 2, 4, 5, 7, 8, 10, 11, 13, 14, 15].contains j_) 4 (.slice A11 x.f1.length c11) rfl (by kernel_rfl) (by kernel_rfl) (by kernel_rfl) (fun _ _ _ h => h) (by kernel_rfl) (fun j_ hj _ h => h hj) (fun _ h _ => h) (by rfl) (by intro wq hq; have q_11 : wq.cell? ⟨w.heap.size, 11, none⟩ = some (.slice A11 x.f1.length c11) := hq.cell 11; go_simp) HX.out ?_
  simp only [Act.put, List.setIfInBounds_toArray, List.set_cons_zero, List.set_cons_succ]
  refine wpAnyP_take' (fun w' => Row w' w.heap.size 64 #[.slice A0 x.f0.f0.length c0, .slice A1 x.f0.f1.length c1, .slice A2 x.f0.f2.length c2, .slice A3 x.f0.f3.length c3, .slice A4 x.f0.f4.length c4, .slice A5 x.f0.f5.length c5, .slice A6 x.f0.f6.length c6, .int .i64 x.f0.f7, .slice A8 x.f0.f8.length c8, .slice A9 x.f0.f9.length c9, .slice A10 x.f0.f10.length c10, .slice A11 x.f1.length c11, .slice A12 x.f2.length c12, .slice A13 x.f3.length c13, .slice A14 x.f4.length c14]) (fun j_ => [1, 2, 4, 5, 7, 8, 10, 11, 13, 14, 15].contains j_) 7 (.slice A12 x.f2.length c12) rfl (by kernel_rfl) (by kernel_rfl) (by kernel_rfl) (fun _ _ _ h => h) (by kernel_rfl) (fun j_ hj _ h => h hj) (fun _ h _ => h) (by rfl) (by intro wq hq; have q_12 : wq.cell? ⟨w.heap.size, 12, none⟩ = some (.slice A12 x.f2.length c12) := hq.cell 12; go_simp) HX.out ?_
  simp only [Act.put, List.setIfInBounds_toArray, List.set_cons_zero, List.set_cons_succ]
  refine wpAnyP_take' (fun w' => Row w' w.heap.size 64 #[.slice A0 x.f0.f0.length c0, .slice A1 x.f0.f1.length c1, .slice A2 x.f0.f2.length c2, .slice A3 x.f0.f3.length c3, .slice A4 x.f0.f4.length c4, .slice A5 x.f0.f5.length c5, .slice A6 x.f0.f6.length c6, .int .i64 x.f0.f7, .slice A8 x.f0.f8.length c8, .slice A9 x.f0.f9.length c9, .slice A10 x.f0.f10.length c10, .slice A11 x.f1.length c11, .slice A12 x.f2.length c12, .slice A13 x.f3.length c13, .slice A14 x.f4.length c14]) (fun j_ => [1, 2, 4, 5, 7, 8, 10, 11, 13, 14, 15].contains j_) 10 (.slice A13 x.f3.length c13) rfl (by kernel_rfl) (by kernel_rfl) (by kernel_rfl) (fun _ _ _ h => h) (by kernel_rfl) (fun j_ hj _ h => h hj) (fun _ h _ => h) (by rfl) (by intro wq hq; have q_13 : wq.cell? ⟨w.heap.size, 13, none⟩ = some (.slice A13 x.f3.length c13) := hq.cell 13; go_simp) HX.out ?_
  simp only [Act.put, List.setIfInBounds_toArray, List.set_cons_zero, List.set_cons_succ]
  refine wpAnyP_take' (fun w' => Row w' w.heap.size 64 #[.slice A0 x.f0.f0.length c0, .slice A1 x.f0.f1.length c1, .slice A2 x.f0.f2.length c2, .slice A3 x.f0.f3.length c3, .slice A4 x.f0.f4.length c4, .slice A5 x.f0.f5.length c5, .slice A6 x.f0.f6.length c6, .int .i64 x.f0.f7, .slice A8 x.f0.f8.length c8, .slice A9 x.f0.f9.length c9, .slice A10 x.f0.f10.length c10, .slice A11 x.f1.length c11, .slice A12 x.f2.length c12, .slice A13 x.f3.length c13, .slice A14 x.f4.length c14]) (fun j_ => [1, 2, 4, 5, 7, 8, 10, 11, 13, 14, 15].contains j_) 13 (.slice A14 x.f4.length c14) rfl (by kernel_rfl) (by kernel_rfl) (by kernel_rfl) (fun _ _ _ h => h) (by kernel_rfl) (fun j_ hj _ h => h hj) (fun _ h _ => h) (by rfl) (by intro wq hq; have q_14 : wq.cell? ⟨w.heap.size, 14, none⟩ = some (.slice A14 x.f4.length c14) := hq.cell 14; go_simp) HX.out ?_
  simp only [Act.put, List.setIfInBounds_toArray, List.set_cons_zero, List.set_cons_succ]
  refine wpAnyP_one (i := 2) (by kernel_rfl) (wpOp_run (i := 2) rfl (fun K2 hK2 => ?_))
  go_simp
  refine (module_copy' (k61.K_below HB.out HM0.out) HBi.out.m).mono ?_
  rintro e w4 ⟨D0, d0, D1, d1, D2, d2, D3, d3, D4, d4, D5, d5, D6, d6, D8, d8, D9, d9, D10, d10, rfl, hR, hBn⟩
  have HR0 := Aside0.mk (k61.M_lower HB.out.size hR)
  replace HX := Aside0.mk (HX.out.below hBn HX.out.lt)
  replace HZ := Aside0.mk (HZ.out.below hBn HZ.out.lt)
  replace HS := Aside0.mk (Nat.le_trans HS.out hBn.size)
  replace HB := Aside0.mk (HB.out.trans (St.below_mono hBn HB.out.size))
  refine hK2.out _ _ ⟨fun _ => HX.out, ?_⟩
  clear hK2 K2 hR hBn
  simp only [Act.put, List.setIfInBounds_toArray, List.set_cons_zero, List.set_cons_succ]
  refine wpAnyP_one (i := 5) (by kernel_rfl) (wpOp_run (i := 5) rfl (fun K5 hK5 => ?_))
  go_simp
  refine (ints_copy' x.f1 HBi.out.h1 L11.out (Kd.C_below G11.out HB.out)).mono ?_
  rintro e w5 ⟨D11, d11, rfl, hR, hBn⟩
  have HR11 := Aside0.mk (Kd.R_lower hR HB.out.size)
  replace HR0 := Aside0.mk (Kd.M_below HR0.out hBn)
  replace HX := Aside0.mk (HX.out.below hBn HX.out.lt)
  replace HZ := Aside0.mk (HZ.out.below hBn HZ.out.lt)
  replace HS := Aside0.mk (Nat.le_trans HS.out hBn.size)
  replace HB := Aside0.mk (HB.out.trans (St.below_mono hBn HB.out.size))
  refine hK5.out _ _ ⟨fun _ => HX.out, ?_⟩
  clear hK5 K5 hR hBn
  simp only [Act.put, List.setIfInBounds_toArray, List.set_cons_zero, List.set_cons_succ]
  refine wpAnyP_one (i := 8) (by kernel_rfl) (wpOp_run (i := 8) rfl (fun K8 hK8 => ?_))
  go_simp
  refine (ints_copy' x.f2 HBi.out.h2 L12.out (Kd.C_below G12.out HB.out)).mono ?_
  rintro e w6 ⟨D12, d12, rfl, hR, hBn⟩
  have HR12 := Aside0.mk (Kd.R_lower hR HB.out.size)
  replace HR0 := Aside0.mk (Kd.M_below HR0.out hBn)
  replace HR11 := Aside0.mk (Kd.R_below HR11.out hBn)
  replace HX := Aside0.mk (HX.out.below hBn HX.out.lt)
  replace HZ := Aside0.mk (HZ.out.below hBn HZ.out.lt)
  replace HS := Aside0.mk (Nat.le_trans HS.out hBn.size)
  replace HB := Aside0.mk (HB.out.trans (St.below_mono hBn HB.out.size))
  refine hK8.out _ _ ⟨fun _ => HX.out, ?_⟩
  clear hK8 K8 hR hBn
  simp only [Act.put, List.setIfInBounds_toArray, List.set_cons_zero, List.set_cons_succ]
  refine wpAnyP_one (i := 11) (by kernel_rfl) (wpOp_run (i := 11) rfl (fun K11 hK11 => ?_))
  go_simp
  refine (ints_copy' x.f3 HBi.out.h3 L13.out (Kd.C_below G13.out HB.out)).mono ?_
  rintro e w7 ⟨D13, d13, rfl, hR, hBn⟩
  have HR13 := Aside0.mk (Kd.R_lower hR HB.out.size)
  replace HR0 := Aside0.mk (Kd.M_below HR0.out hBn)
  replace HR11 := Aside0.mk (Kd.R_below HR11.out hBn)
  replace HR12 := Aside0.mk (Kd.R_below HR12.out hBn)
  replace HX := Aside0.mk (HX.out.below hBn HX.out.lt)
  replace HZ := Aside0.mk (HZ.out.below hBn HZ.out.lt)
  replace HS := Aside0.mk (Nat.le_trans HS.out hBn.size)
  replace HB := Aside0.mk (HB.out.trans (St.below_mono hBn HB.out.size))
  refine hK11.out _ _ ⟨fun _ => HX.out, ?_⟩
  clear hK11 K11 hR hBn
  simp only [Act.put, List.setIfInBounds_toArray, List.set_cons_zero, List.set_cons_succ]
  refine wpAnyP_one (i := 14) (by kernel_rfl) (wpOp_run (i := 14) rfl (fun K14 hK14 => ?_))
  go_simp
  refine (ints_copy' x.f4 HBi.out.h4 L14.out (Kd.C_below G14.out HB.out)).mono ?_
  rintro e w8 ⟨D14, d14, rfl, hR, hBn⟩
  have HR14 := Aside0.mk (Kd.R_lower hR HB.out.size)
  replace HR0 := Aside0.mk (Kd.M_below HR0.out hBn)
  replace HR11 := Aside0.mk (Kd.R_below HR11.out hBn)
  replace HR12 := Aside0.mk (Kd.R_below HR12.out hBn)
  replace HR13 := Aside0.mk (Kd.R_below HR13.out hBn)
  replace HX := Aside0.mk (HX.out.below hBn HX.out.lt)
  replace HZ := Aside0.mk (HZ.out.below hBn HZ.out.lt)
  replace HS := Aside0.mk (Nat.le_trans HS.out hBn.size)
  replace HB := Aside0.mk (HB.out.trans (St.below_mono hBn HB.out.size))
  refine hK14.out _ _ ⟨fun _ => HX.out, ?_⟩
  clear hK14 K14 hR hBn
  simp only [Act.put, List.setIfInBounds_toArray, List.set_cons_zero, List.set_cons_succ]
  refine wpAnyP_one (i := 15) (by kernel_rfl) (wpOp_run (i := 15) rfl (fun K15 hK15 => ?_))
  go_simp
  refine hK15.out _ _ ⟨fun _ => HX.out, ?_⟩
  clear hK15 K15
  simp only [Act.put, List.setIfInBounds_toArray, List.set_cons_zero, List.set_cons_succ]
  refine wpAnyP_one (i := 16) (by kernel_rfl) (wpOp_run (i := 16) rfl (fun K16 hK16 => ?_))
  have y0 : w8.cell? ⟨w.heap.size + 1, 0, none⟩ = some (.slice none 0 0) := HZ.out.cell 0; have z0 := HZ.out.frozen 0
  have y1 : w8.cell? ⟨w.heap.size + 1, 1, none⟩ = some (.slice none 0 0) := HZ.out.cell 1; have z1 := HZ.out.frozen 1
  have y2 : w8.cell? ⟨w.heap.size + 1, 2, none⟩ = some (.slice none 0 0) := HZ.out.cell 2; have z2 := HZ.out.frozen 2
  have y3 : w8.cell? ⟨w.heap.size + 1, 3, none⟩ = some (.slice none 0 0) := HZ.out.cell 3; have z3 := HZ.out.frozen 3
  have y4 : w8.cell? ⟨w.heap.size + 1, 4, none⟩ = some (.slice none 0 0) := HZ.out.cell 4; have z4 := HZ.out.frozen 4
  have y5 : w8.cell? ⟨w.heap.size + 1, 5, none⟩ = some (.slice none 0 0) := HZ.out.cell 5; have z5 := HZ.out.frozen 5
  have y6 : w8.cell? ⟨w.heap.size + 1, 6, none⟩ = some (.slice none 0 0) := HZ.out.cell 6; have z6 := HZ.out.frozen 6
  have y7 : w8.cell? ⟨w.heap.size + 1, 7, none⟩ = some (.int .i64 0) := HZ.out.cell 7; have z7 := HZ.out.frozen 7
  have y8 : w8.cell? ⟨w.heap.size + 1, 8, none⟩ = some (.slice none 0 0) := HZ.out.cell 8; have z8 := HZ.out.frozen 8
  have y9 : w8.cell? ⟨w.heap.size + 1, 9, none⟩ = some (.slice none 0 0) := HZ.out.cell 9; have z9 := HZ.out.frozen 9
  have y10 : w8.cell? ⟨w.heap.size + 1, 10, none⟩ = some (.slice none 0 0) := HZ.out.cell 10; have z10 := HZ.out.frozen 10
  have y11 : w8.cell? ⟨w.heap.size + 1, 11, none⟩ = some (.slice none 0 0) := HZ.out.cell 11; have z11 := HZ.out.frozen 11
  have y12 : w8.cell? ⟨w.heap.size + 1, 12, none⟩ = some (.slice none 0 0) := HZ.out.cell 12; have z12 := HZ.out.frozen 12
  have y13 : w8.cell? ⟨w.heap.size + 1, 13, none⟩ = some (.slice none 0 0) := HZ.out.cell 13; have z13 := HZ.out.frozen 13
  have y14 : w8.cell? ⟨w.heap.size + 1, 14, none⟩ = some (.slice none 0 0) := HZ.out.cell 14; have z14 := HZ.out.frozen 14
  have r9 := put15_row (a0 := .slice D0 x.f0.f0.length d0) (a1 := .slice D1 x.f0.f1.length d1) (a2 := .slice D2 x.f0.f2.length d2) (a3 := .slice D3 x.f0.f3.length d3) (a4 := .slice D4 x.f0.f4.length d4) (a5 := .slice D5 x.f0.f5.length d5) (a6 := .slice D6 x.f0.f6.length d6) (a7 := .int .i64 x.f0.f7) (a8 := .slice D8 x.f0.f8.length d8) (a9 := .slice D9 x.f0.f9.length d9) (a10 := .slice D10 x.f0.f10.length d10) (a11 := .slice D11 x.f1.length d11) (a12 := .slice D12 x.f2.length d12) (a13 := .slice D13 x.f3.length d13) (a14 := .slice D14 x.f4.length d14) HZ.out
  have hm {α : Type} {d : Kd α} {e : Nat} {v : Value} {xs : List α} (r : d.R e w8 w.heap.size (fun _ => True) v xs) (ht : ∀ q, q ∈ e :: d.E → q ≠ 64) : d.R e (put15 w8 (w.heap.size + 1) (.slice D0 x.f0.f0.length d0) (.slice D1 x.f0.f1.length d1) (.slice D2 x.f0.f2.length d2) (.slice D3 x.f0.f3.length d3) (.slice D4 x.f0.f4.length d4) (.slice D5 x.f0.f5.length d5) (.slice D6 x.f0.f6.length d6) (.int .i64 x.f0.f7) (.slice D8 x.f0.f8.length d8) (.slice D9 x.f0.f9.length d9) (.slice D10 x.f0.f10.length d10) (.slice D11 x.f1.length d11) (.slice D12 x.f2.length d12) (.slice D13 x.f3.length d13) (.slice D14 x.f4.length d14)) w.heap.size (fun _ => True) v xs :=
    Kd.R_mono (Kd.R_step (Kd.R_types r HZ.out ht) (fun k hk _ => put15_off k hk.2)) (fun _ hk => hk.1)
  have m0 : k61.M (put15 w8 (w.heap.size + 1) (.slice D0 x.f0.f0.length d0) (.slice D1 x.f0.f1.length d1) (.slice D2 x.f0.f2.length d2) (.slice D3 x.f0.f3.length d3) (.slice D4 x.f0.f4.length d4) (.slice D5 x.f0.f5.length d5) (.slice D6 x.f0.f6.length d6) (.int .i64 x.f0.f7) (.slice D8 x.f0.f8.length d8) (.slice D9 x.f0.f9.length d9) (.slice D10 x.f0.f10.length d10) (.slice D11 x.f1.length d11) (.slice D12 x.f2.length d12) (.slice D13 x.f3.length d13) (.slice D14 x.f4.length d14)) w.heap.size (fun _ => True) x.f0 [.slice D0 x.f0.f0.length d0, .slice D1 x.f0.f1.length d1, .slice D2 x.f0.f2.length d2, .slice D3 x.f0.f3.length d3, .slice D4 x.f0.f4.length d4, .slice D5 x.f0.f5.length d5, .slice D6 x.f0.f6.length d6, .int .i64 x.f0.f7, .slice D8 x.f0.f8.length d8, .slice D9 x.f0.f9.length d9, .slice D10 x.f0.f10.length d10] := k61.M_mono (fun _ hk => hk.1) (Kd.M_step (Kd.M_types HR0.out HZ.out (by decide)) (fun k hk _ => put15_off k hk.2))
  have HM9 := Aside0.mk (show k64.M (put15 w8 (w.heap.size + 1) (.slice D0 x.f0.f0.length d0) (.slice D1 x.f0.f1.length d1) (.slice D2 x.f0.f2.length d2) (.slice D3 x.f0.f3.length d3) (.slice D4 x.f0.f4.length d4) (.slice D5 x.f0.f5.length d5) (.slice D6 x.f0.f6.length d6) (.int .i64 x.f0.f7) (.slice D8 x.f0.f8.length d8) (.slice D9 x.f0.f9.length d9) (.slice D10 x.f0.f10.length d10) (.slice D11 x.f1.length d11) (.slice D12 x.f2.length d12) (.slice D13 x.f3.length d13) (.slice D14 x.f4.length d14)) w.heap.size (fun _ => True) x [.slice D0 x.f0.f0.length d0, .slice D1 x.f0.f1.length d1, .slice D2 x.f0.f2.length d2, .slice D3 x.f0.f3.length d3, .slice D4 x.f0.f4.length d4, .slice D5 x.f0.f5.length d5, .slice D6 x.f0.f6.length d6, .int .i64 x.f0.f7, .slice D8 x.f0.f8.length d8, .slice D9 x.f0.f9.length d9, .slice D10 x.f0.f10.length d10, .slice D11 x.f1.length d11, .slice D12 x.f2.length d12, .slice D13 x.f3.length d13, .slice D14 x.f4.length d14] from ⟨_, [.slice D11 x.f1.length d11, .slice D12 x.f2.length d12, .slice D13 x.f3.length d13, .slice D14 x.f4.length d14], rfl, m0, ⟨[_], [.slice D12 x.f2.length d12, .slice D13 x.f3.length d13, .slice D14 x.f4.length d14], rfl, ⟨_, rfl, hm HR11.out (by decide)⟩, ⟨[_], [.slice D13 x.f3.length d13, .slice D14 x.f4.length d14], rfl, ⟨_, rfl, hm HR12.out (by decide)⟩, ⟨[_], [.slice D14 x.f4.length d14], rfl, ⟨_, rfl, hm HR13.out (by decide)⟩, ⟨_, rfl, hm HR14.out (by decide)⟩⟩⟩⟩⟩)
  have HB9 := Aside0.mk (show Below w.heap.size w (put15 w8 (w.heap.size + 1) (.slice D0 x.f0.f0.length d0) (.slice D1 x.f0.f1.length d1) (.slice D2 x.f0.f2.length d2) (.slice D3 x.f0.f3.length d3) (.slice D4 x.f0.f4.length d4) (.slice D5 x.f0.f5.length d5) (.slice D6 x.f0.f6.length d6) (.int .i64 x.f0.f7) (.slice D8 x.f0.f8.length d8) (.slice D9 x.f0.f9.length d9) (.slice D10 x.f0.f10.length d10) (.slice D11 x.f1.length d11) (.slice D12 x.f2.length d12) (.slice D13 x.f3.length d13) (.slice D14 x.f4.length d14)) from put15_below HB.out (Nat.le_succ _))
  have HR9 := Aside0.mk r9
  clear hm m0 r9
  go_simp
  refine hK16.out _ (put15 w8 (w.heap.size + 1) (.slice D0 x.f0.f0.length d0) (.slice D1 x.f0.f1.length d1) (.slice D2 x.f0.f2.length d2) (.slice D3 x.f0.f3.length d3) (.slice D4 x.f0.f4.length d4) (.slice D5 x.f0.f5.length d5) (.slice D6 x.f0.f6.length d6) (.int .i64 x.f0.f7) (.slice D8 x.f0.f8.length d8) (.slice D9 x.f0.f9.length d9) (.slice D10 x.f0.f10.length d10) (.slice D11 x.f1.length d11) (.slice D12 x.f2.length d12) (.slice D13 x.f3.length d13) (.slice D14 x.f4.length d14)) ⟨fun hj => absurd hj (by decide), ?_⟩
  clear hK16 K16 y0 z0 y1 z1 y2 z2 y3 z3 y4 z4 y5 z5 y6 z6 y7 z7 y8 z8 y9 z9 y10 z10 y11 z11 y12 z12 y13 z13 y14 z14
  generalize put15 w8 (w.heap.size + 1) (.slice D0 x.f0.f0.length d0) (.slice D1 x.f0.f1.length d1) (.slice D2 x.f0.f2.length d2) (.slice D3 x.f0.f3.length d3) (.slice D4 x.f0.f4.length d4) (.slice D5 x.f0.f5.length d5) (.slice D6 x.f0.f6.length d6) (.int .i64 x.f0.f7) (.slice D8 x.f0.f8.length d8) (.slice D9 x.f0.f9.length d9) (.slice D10 x.f0.f10.length d10) (.slice D11 x.f1.length d11) (.slice D12 x.f2.length d12) (.slice D13 x.f3.length d13) (.slice D14 x.f4.length d14) = wz at HM9 HB9 HR9 ⊢
  simp only [Act.put, List.setIfInBounds_toArray, List.set_cons_zero, List.set_cons_succ]
  refine wpAnyP_done (by kernel_rfl) ?_ _
  go_wp2_with fail
  refine bodyPost_ret (results_cell_row (cs := #[.slice D0 x.f0.f0.length d0, .slice D1 x.f0.f1.length d1, .slice D2 x.f0.f2.length d2, .slice D3 x.f0.f3.length d3, .slice D4 x.f0.f4.length d4, .slice D5 x.f0.f5.length d5, .slice D6 x.f0.f6.length d6, .int .i64 x.f0.f7, .slice D8 x.f0.f8.length d8, .slice D9 x.f0.f9.length d9, .slice D10 x.f0.f10.length d10, .slice D11 x.f1.length d11, .slice D12 x.f2.length d12, .slice D13 x.f3.length d13, .slice D14 x.f4.length d14]) rfl _ _ (w.heap.size + 1) 64 _ _ rfl HR9.out Try.underlying64 rfl (by kernel_rfl)) rfl ?_
  exact ⟨D0, d0, D1, d1, D2, d2, D3, d3, D4, d4, D5, d5, D6, d6, D8, d8, D9, d9, D10, d10, D11, d11, D12, d12, D13, d13, D14, d14, rfl, HM9.out, HB9.out⟩
end Go.Proofs.Ytbelijoggbblgaa.Ex
