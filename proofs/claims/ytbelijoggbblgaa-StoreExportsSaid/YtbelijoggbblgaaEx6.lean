/- The program's copy of a module: all of it in new memory, and the same. Printed by the program mkex6.py. -/
import Derived.Test.YtbelijoggbblgaaEx5
import Derived.Test.YtbelijoggbblgaaWp0
import Derived.Deep.RegionHeld3
import Derived.Deep.CutBlock
import Derived.Deep.CutRange
import Derived.Deep.LoopGhost
namespace Go.Proofs.Ytbelijoggbblgaa.Ex
open Go.RowKit Go.Proofs.YtbelijoggbblgaaW.PrintWords Go.Proofs.YtbelijoggbblgaaW.PrintLast Go.Proofs.Ytbelijoggbblgaa.RStoreExports Go.Proofs.Ytbelijoggbblgaa.Man
set_option linter.unusedVariables false
set_option linter.unusedSimpArgs false
theorem take_next {α : Type} (l : List α) (z : α) (k : Int) (h0 : 0 ≤ k) (h1 : k < l.length) : l.take k.toNat ++ [l.getD k.toNat z] = l.take (k + 1).toNat := by
  have hk : k.toNat < l.length := by omega
  have e : (k + 1).toNat = k.toNat + 1 := by omega
  rw [e, List.take_add_one, List.getElem?_eq_getElem hk, Option.toList_some, List.getD_eq_getElem?_getD, List.getElem?_eq_getElem hk]
  rfl
theorem getD_mem_ {α : Type} (l : List α) (z : α) (k : Int) (h0 : 0 ≤ k) (h1 : k < l.length) : l.getD k.toNat z ∈ l := by
  have hk : k.toNat < l.length := by omega
  rw [List.getD_eq_getElem?_getD, List.getElem?_eq_getElem hk]
  exact List.getElem_mem hk
theorem type_copy' {w : World} {A B : Option Addr} {c d : Nat} (x : S25) (h0 : x.f0.length * 8 ≤ 140737488351232) (h1 : x.f1.length * 8 ≤ 140737488351232) (l0 : x.f0.length ≤ c) (g0 : (Kd.int .i64).C w A x.f0.length x.f0) (l1 : x.f1.length ≤ d) (g1 : (Kd.int .i64).C w B x.f1.length x.f1) :
    Calls Try.prog 22 #[.agg #[.slice A x.f0.length c, .slice B x.f1.length d]] w fun e w' => ∃ E0 e0 E1 e1, e = .returned (.agg #[.slice E0 x.f0.length e0, .slice E1 x.f1.length e1]) ∧ k25.M w' w.heap.size (fun _ => True) x [.slice E0 x.f0.length e0, .slice E1 x.f1.length e1] ∧ Below w.heap.size w w' := by
  refine (type_copy x h0 h1 l0 g0 l1 g1).mono ?_
  rintro e w' ⟨v0, v1, rfl, r0, r1, hb⟩
  obtain ⟨E0, e0, rfl⟩ := Kd.R_slice r0
  obtain ⟨E1, e1, rfl⟩ := Kd.R_slice r1
  exact ⟨E0, e0, E1, e1, rfl, k25_mkM _ _ _ x r0 r1, hb⟩
theorem ints_copy' {w : World} {A : Option Addr} {c : Nat} (l : List Int) (h0 : l.length * 8 ≤ 140737488351232) (l0 : l.length ≤ c) (g0 : (Kd.int .i64).C w A l.length l) :
    Calls Try.prog 25 #[.slice A l.length c] w fun e w' => ∃ E d, e = .returned (.slice E l.length d) ∧ (Kd.int .i64).R 3 w' w.heap.size (fun _ => True) (.slice E l.length d) l ∧ Below w.heap.size w w' := by
  refine (ints_copy l h0 l0 g0).mono ?_
  rintro e w' ⟨v, rfl, r, hb⟩
  obtain ⟨E, d, rfl⟩ := Kd.R_slice r
  exact ⟨E, d, rfl, r, hb⟩
theorem bytes_copy' {w : World} {A : Option Addr} {c : Nat} (l : List Int) (h0 : l.length * 1 ≤ 140737488351232) (l0 : l.length ≤ c) (g0 : (Kd.int .u8).C w A l.length l) :
    Calls Try.prog 51 #[.slice A l.length c] w fun e w' => ∃ E d, e = .returned (.slice E l.length d) ∧ (Kd.int .u8).R 5 w' w.heap.size (fun _ => True) (.slice E l.length d) l ∧ Below w.heap.size w w' := by
  refine (clone5 g0 l0 h0).mono ?_
  rintro e w' ⟨v, rfl, r, hb⟩
  obtain ⟨E, d, rfl⟩ := Kd.R_slice r
  exact ⟨E, d, rfl, r, hb⟩
theorem code_copy' {n : Nat} {w : World} {A : Option Addr} {c : Nat} (l : List S104) (h0 : Bd n l) (l0 : l.length ≤ c) (g0 : k104.C w A l.length l) :
    Calls Try.prog 55 #[.slice A l.length c] w fun e w' => ∃ E d, e = .returned (.slice E l.length d) ∧ k104.R 104 w' w.heap.size (fun _ => True) (.slice E l.length d) l ∧ Below w.heap.size w w' := by
  refine (code_copy h0 g0 l0).mono ?_
  rintro e w' ⟨v, rfl, r, hb⟩
  obtain ⟨E, d, rfl⟩ := Kd.R_slice r
  exact ⟨E, d, rfl, r, hb⟩
theorem one_copy' {n : Nat} (x : S104) (hb : Bd n [x]) {w : World} {A5 : Option Addr} {c5 : Nat} (l5 : x.f5.length ≤ c5) (g5 : (Kd.int .i64).C w A5 x.f5.length x.f5) {A6 : Option Addr} {c6 : Nat} (l6 : x.f6.length ≤ c6) (g6 : k104.C w A6 x.f6.length x.f6) {A7 : Option Addr} {c7 : Nat} (l7 : x.f7.length ≤ c7) (g7 : k104.C w A7 x.f7.length x.f7) :
    Calls Try.prog 56 #[.agg #[.int .i64 x.f0, .int .i64 x.f1, .int .i64 x.f2, .int .u64 x.f3, .int .i64 x.f4, .slice A5 x.f5.length c5, .slice A6 x.f6.length c6, .slice A7 x.f7.length c7, .bool x.f8]] w fun e w' => ∃ E5 e5 E6 e6 E7 e7, e = .returned (.agg #[.int .i64 x.f0, .int .i64 x.f1, .int .i64 x.f2, .int .u64 x.f3, .int .i64 x.f4, .slice E5 x.f5.length e5, .slice E6 x.f6.length e6, .slice E7 x.f7.length e7, .bool x.f8]) ∧ k104.M w' w.heap.size (fun _ => True) x [.int .i64 x.f0, .int .i64 x.f1, .int .i64 x.f2, .int .u64 x.f3, .int .i64 x.f4, .slice E5 x.f5.length e5, .slice E6 x.f6.length e6, .slice E7 x.f7.length e7, .bool x.f8] ∧ Below w.heap.size w w' := by
  refine (one_copy x hb l5 g5 l6 g6 l7 g7).mono ?_
  rintro e w' ⟨cs, rfl, hM, hb⟩
  obtain ⟨v5, v6, v7, rfl, r5, r6, r7⟩ := k104_openM hM
  obtain ⟨E5, e5, rfl⟩ := Kd.R_slice r5
  obtain ⟨E6, e6, rfl⟩ := Kd.R_slice r6
  obtain ⟨E7, e7, rfl⟩ := Kd.R_slice r7
  exact ⟨E5, e5, E6, e6, E7, e7, rfl, hM, hb⟩
set_option maxHeartbeats 16000000 in
set_option maxRecDepth 100000 in
theorem module_copy {n : Nat} {w : World} {m : S61} {cs : List Value} (h : k61.K w m cs) (hb : Bm n m) : Calls Try.prog 44 #[.agg cs.toArray] w fun e w' => ∃ cs' : List Value, e = .returned (.agg cs'.toArray) ∧ k61.M w' w.heap.size (fun _ => True) m cs' ∧ Below w.heap.size w w' := by
  obtain ⟨A0, c0, A1, c1, A2, c2, A3, c3, A4, c4, A5, c5, A6, c6, A8, c8, A9, c9, A10, c10, rfl, l0, g0, l1, g1, l2, g2, l3, g3, l4, g4, l5, g5, l6, g6, l8, g8, l9, g9, l10, g10⟩ := k61_open h
  have G0 := Aside0.mk g0; have L0 := Aside0.mk l0
  have G1 := Aside0.mk g1; have L1 := Aside0.mk l1
  have G2 := Aside0.mk g2; have L2 := Aside0.mk l2
  have G3 := Aside0.mk g3; have L3 := Aside0.mk l3
  have G4 := Aside0.mk g4; have L4 := Aside0.mk l4
  have G5 := Aside0.mk g5; have L5 := Aside0.mk l5
  have G6 := Aside0.mk g6; have L6 := Aside0.mk l6
  have G8 := Aside0.mk g8; have L8 := Aside0.mk l8
  have G9 := Aside0.mk g9; have L9 := Aside0.mk l9
  have G10 := Aside0.mk g10; have L10 := Aside0.mk l10
  have HBm := Aside0.mk hb
  have C1 := Aside0.mk (fun (wq : World) (hq : Below w.heap.size w wq) => clone118 (Kd.C_below g1 hq) l1 hb.h1)
  have C3 := Aside0.mk (fun (wq : World) (hq : Below w.heap.size w wq) => clone38 (Kd.C_below g3 hq) l3 hb.h3)
  have C4 := Aside0.mk (fun (wq : World) (hq : Below w.heap.size w wq) => clone38 (Kd.C_below g4 hq) l4 hb.h4)
  have C6 := Aside0.mk (fun (wq : World) (hq : Below w.heap.size w wq) => clone74 (Kd.C_below g6 hq) l6 hb.h6)
  obtain ⟨w2, hw2⟩ : ∃ w2, w2 = (w.alloc (.cells #[.slice A0 m.f0.length c0, .slice A1 m.f1.length c1, .slice A2 m.f2.length c2, .slice A3 m.f3.length c3, .slice A4 m.f4.length c4, .slice A5 m.f5.length c5, .slice A6 m.f6.length c6, .int .i64 m.f7, .slice A8 m.f8.length c8, .slice A9 m.f9.length c9, .slice A10 m.f10.length c10] 61)).alloc (.cells #[.slice none 0 0, .slice none 0 0, .slice none 0 0, .slice none 0 0, .slice none 0 0, .slice none 0 0, .slice none 0 0, .int .i64 0, .slice none 0 0, .slice none 0 0, .slice none 0 0] 61) := ⟨_, rfl⟩
  have hB2 : Below w.heap.size w w2 := by rw [hw2]; exact below_alloc (below_alloc (Below.refl _ _) _) _
  have hx2 : Row w2 w.heap.size 61 #[.slice A0 m.f0.length c0, .slice A1 m.f1.length c1, .slice A2 m.f2.length c2, .slice A3 m.f3.length c3, .slice A4 m.f4.length c4, .slice A5 m.f5.length c5, .slice A6 m.f6.length c6, .int .i64 m.f7, .slice A8 m.f8.length c8, .slice A9 m.f9.length c9, .slice A10 m.f10.length c10] := by rw [hw2]; exact St.Row.alloc (St.Row.made _ _ _ rfl) _
  have hz2 : Row w2 (w.heap.size + 1) 61 Z61 := by rw [hw2]; exact St.Row.made _ _ _ (by simp)
  have hs2 : w2.heap.size = w.heap.size + 2 := by rw [hw2]; simp
  have HB := Aside0.mk hB2.drew
  have HX := Aside0.mk (show Row w2.drew w.heap.size 61 #[.slice A0 m.f0.length c0, .slice A1 m.f1.length c1, .slice A2 m.f2.length c2, .slice A3 m.f3.length c3, .slice A4 m.f4.length c4, .slice A5 m.f5.length c5, .slice A6 m.f6.length c6, .int .i64 m.f7, .slice A8 m.f8.length c8, .slice A9 m.f9.length c9, .slice A10 m.f10.length c10] from hx2)
  have HZ := Aside0.mk (show Row w2.drew (w.heap.size + 1) 61 Z61 from hz2)
  have HS := Aside0.mk (show w.heap.size + 2 ≤ w2.drew.heap.size by rw [show w2.drew.heap.size = w2.heap.size from rfl, hs2]; exact Nat.le_refl _)
  clear h hb l0 g0 l1 g1 l2 g2 l3 g3 l4 g4 l5 g5 l6 g6 l8 g8 l9 g9 l10 g10 hB2 hx2 hz2 hs2
  go_enter Try.func44, Try.ntmps44
  go_upto_region 1 with fail
  rw [← hw2]
  clear hw2
  go_cut [3] from 16 to 30 (fun v3 wc => ∃ (g : Nat) (s1 s3 s4 s6 : Value), v3 = .pointer (some ⟨g, 0, none⟩) ∧ Aside0 (Mv w wc g #[.slice A0 m.f0.length c0, .slice A1 m.f1.length c1, .slice A2 m.f2.length c2, .slice A3 m.f3.length c3, .slice A4 m.f4.length c4, .slice A5 m.f5.length c5, .slice A6 m.f6.length c6, .int .i64 m.f7, .slice A8 m.f8.length c8, .slice A9 m.f9.length c9, .slice A10 m.f10.length c10] ⟨[], m.f1, [], m.f3, m.f4, [], m.f6, m.f7, [], [], []⟩ (.slice none 0 0) s1 (.slice none 0 0) s3 s4 (.slice none 0 0) s6 (.slice none 0 0) (.slice none 0 0) (.slice none 0 0)))
  case first =>
    refine wp_region_heldP (fun j_ w' => (fun j_ => [1, 3, 4, 6, 7, 9, 10, 12, 13, 14, 15].contains j_) j_ = true → (Row w' w.heap.size 61 #[.slice A0 m.f0.length c0, .slice A1 m.f1.length c1, .slice A2 m.f2.length c2, .slice A3 m.f3.length c3, .slice A4 m.f4.length c4, .slice A5 m.f5.length c5, .slice A6 m.f6.length c6, .int .i64 m.f7, .slice A8 m.f8.length c8, .slice A9 m.f9.length c9, .slice A10 m.f10.length c10])) (by kernel_rfl) ?_
    simp only [List.size_toArray, List.length_cons, List.length_nil, Nat.zero_add, Nat.reduceAdd, Array.replicate, List.replicate]
    obtain ⟨w3, hw3⟩ : ∃ w3, w3 = w2.drew := ⟨_, rfl⟩
    rw [← hw3] at HB HX HZ HS ⊢
    clear hw3
    refine wpAnyP_take' (fun _ => True) (fun _ => true) 0 (.pointer (some ⟨w.heap.size, 7, none⟩)) rfl (by kernel_rfl) (by kernel_rfl) (by kernel_rfl) (fun _ _ _ h => h) (by kernel_rfl) (fun _ _ _ _ => trivial) (fun _ _ hj => absurd hj (by decide)) (by rfl) (by intro wq _; go_simp) trivial ?_
    simp only [Act.put, List.setIfInBounds_toArray, List.set_cons_zero, List.set_cons_succ]
    refine wpAnyP_take' (fun _ => True) (fun _ => true) 2 (.pointer (some ⟨w.heap.size, 1, none⟩)) rfl (by kernel_rfl) (by kernel_rfl) (by kernel_rfl) (fun _ _ _ h => h) (by kernel_rfl) (fun _ _ _ _ => trivial) (fun _ _ hj => absurd hj (by decide)) (by rfl) (by intro wq _; go_simp) trivial ?_
    simp only [Act.put, List.setIfInBounds_toArray, List.set_cons_zero, List.set_cons_succ]
    refine wpAnyP_take' (fun _ => True) (fun _ => true) 5 (.pointer (some ⟨w.heap.size, 3, none⟩)) rfl (by kernel_rfl) (by kernel_rfl) (by kernel_rfl) (fun _ _ _ h => h) (by kernel_rfl) (fun _ _ _ _ => trivial) (fun _ _ hj => absurd hj (by decide)) (by rfl) (by intro wq _; go_simp) trivial ?_
    simp only [Act.put, List.setIfInBounds_toArray, List.set_cons_zero, List.set_cons_succ]
    refine wpAnyP_take' (fun _ => True) (fun _ => true) 8 (.pointer (some ⟨w.heap.size, 4, none⟩)) rfl (by kernel_rfl) (by kernel_rfl) (by kernel_rfl) (fun _ _ _ h => h) (by kernel_rfl) (fun _ _ _ _ => trivial) (fun _ _ hj => absurd hj (by decide)) (by rfl) (by intro wq _; go_simp) trivial ?_
    simp only [Act.put, List.setIfInBounds_toArray, List.set_cons_zero, List.set_cons_succ]
    refine wpAnyP_take' (fun _ => True) (fun _ => true) 11 (.pointer (some ⟨w.heap.size, 6, none⟩)) rfl (by kernel_rfl) (by kernel_rfl) (by kernel_rfl) (fun _ _ _ h => h) (by kernel_rfl) (fun _ _ _ _ => trivial) (fun _ _ hj => absurd hj (by decide)) (by rfl) (by intro wq _; go_simp) trivial ?_
    simp only [Act.put, List.setIfInBounds_toArray, List.set_cons_zero, List.set_cons_succ]
    refine wpAnyP_take' (fun w' => (Row w' w.heap.size 61 #[.slice A0 m.f0.length c0, .slice A1 m.f1.length c1, .slice A2 m.f2.length c2, .slice A3 m.f3.length c3, .slice A4 m.f4.length c4, .slice A5 m.f5.length c5, .slice A6 m.f6.length c6, .int .i64 m.f7, .slice A8 m.f8.length c8, .slice A9 m.f9.length c9, .slice A10 m.f10.length c10])) (fun j_ => [1, 3, 4, 6, 7, 9, 10, 12, 13, 14, 15].contains j_) 1 (.int .i64 m.f7) rfl (by kernel_rfl) (by kernel_rfl) (by kernel_rfl) (fun _ _ _ h => h) (by kernel_rfl) (fun j_ hj _ h => h hj) (fun _ h _ => h) (by rfl) (by intro wq hq; have c_ : wq.cell? ⟨w.heap.size, 7, none⟩ = some (.int .i64 m.f7) := hq.cell 7; go_simp) HX.out ?_
    simp only [Act.put, List.setIfInBounds_toArray, List.set_cons_zero, List.set_cons_succ]
    refine wpAnyP_take' (fun w' => (Row w' w.heap.size 61 #[.slice A0 m.f0.length c0, .slice A1 m.f1.length c1, .slice A2 m.f2.length c2, .slice A3 m.f3.length c3, .slice A4 m.f4.length c4, .slice A5 m.f5.length c5, .slice A6 m.f6.length c6, .int .i64 m.f7, .slice A8 m.f8.length c8, .slice A9 m.f9.length c9, .slice A10 m.f10.length c10])) (fun j_ => [1, 3, 4, 6, 7, 9, 10, 12, 13, 14, 15].contains j_) 3 (.slice A1 m.f1.length c1) rfl (by kernel_rfl) (by kernel_rfl) (by kernel_rfl) (fun _ _ _ h => h) (by kernel_rfl) (fun j_ hj _ h => h hj) (fun _ h _ => h) (by rfl) (by intro wq hq; have c_ : wq.cell? ⟨w.heap.size, 1, none⟩ = some (.slice A1 m.f1.length c1) := hq.cell 1; go_simp) HX.out ?_
    simp only [Act.put, List.setIfInBounds_toArray, List.set_cons_zero, List.set_cons_succ]
    refine wpAnyP_take' (fun w' => (Row w' w.heap.size 61 #[.slice A0 m.f0.length c0, .slice A1 m.f1.length c1, .slice A2 m.f2.length c2, .slice A3 m.f3.length c3, .slice A4 m.f4.length c4, .slice A5 m.f5.length c5, .slice A6 m.f6.length c6, .int .i64 m.f7, .slice A8 m.f8.length c8, .slice A9 m.f9.length c9, .slice A10 m.f10.length c10])) (fun j_ => [1, 3, 4, 6, 7, 9, 10, 12, 13, 14, 15].contains j_) 6 (.slice A3 m.f3.length c3) rfl (by kernel_rfl) (by kernel_rfl) (by kernel_rfl) (fun _ _ _ h => h) (by kernel_rfl) (fun j_ hj _ h => h hj) (fun _ h _ => h) (by rfl) (by intro wq hq; have c_ : wq.cell? ⟨w.heap.size, 3, none⟩ = some (.slice A3 m.f3.length c3) := hq.cell 3; go_simp) HX.out ?_
    simp only [Act.put, List.setIfInBounds_toArray, List.set_cons_zero, List.set_cons_succ]
    refine wpAnyP_take' (fun w' => (Row w' w.heap.size 61 #[.slice A0 m.f0.length c0, .slice A1 m.f1.length c1, .slice A2 m.f2.length c2, .slice A3 m.f3.length c3, .slice A4 m.f4.length c4, .slice A5 m.f5.length c5, .slice A6 m.f6.length c6, .int .i64 m.f7, .slice A8 m.f8.length c8, .slice A9 m.f9.length c9, .slice A10 m.f10.length c10])) (fun j_ => [1, 3, 4, 6, 7, 9, 10, 12, 13, 14, 15].contains j_) 9 (.slice A4 m.f4.length c4) rfl (by kernel_rfl) (by kernel_rfl) (by kernel_rfl) (fun _ _ _ h => h) (by kernel_rfl) (fun j_ hj _ h => h hj) (fun _ h _ => h) (by rfl) (by intro wq hq; have c_ : wq.cell? ⟨w.heap.size, 4, none⟩ = some (.slice A4 m.f4.length c4) := hq.cell 4; go_simp) HX.out ?_
    simp only [Act.put, List.setIfInBounds_toArray, List.set_cons_zero, List.set_cons_succ]
    refine wpAnyP_take' (fun w' => (Row w' w.heap.size 61 #[.slice A0 m.f0.length c0, .slice A1 m.f1.length c1, .slice A2 m.f2.length c2, .slice A3 m.f3.length c3, .slice A4 m.f4.length c4, .slice A5 m.f5.length c5, .slice A6 m.f6.length c6, .int .i64 m.f7, .slice A8 m.f8.length c8, .slice A9 m.f9.length c9, .slice A10 m.f10.length c10])) (fun j_ => [1, 3, 4, 6, 7, 9, 10, 12, 13, 14, 15].contains j_) 12 (.slice A6 m.f6.length c6) rfl (by kernel_rfl) (by kernel_rfl) (by kernel_rfl) (fun _ _ _ h => h) (by kernel_rfl) (fun j_ hj _ h => h hj) (fun _ h _ => h) (by rfl) (by intro wq hq; have c_ : wq.cell? ⟨w.heap.size, 6, none⟩ = some (.slice A6 m.f6.length c6) := hq.cell 6; go_simp) HX.out ?_
    simp only [Act.put, List.setIfInBounds_toArray, List.set_cons_zero, List.set_cons_succ]
    refine wpAnyP_two (i := 4) (k := 15) (by kernel_rfl) (wpOp_run (i := 4) rfl (fun K4 hK4 => ?_)) (wpOp_run (i := 15) rfl (fun K15 hK15 => ?_))
    · go_simp
      refine (C1.out _ HB.out).mono ?_
      rintro e w4 ⟨vn, rfl, hRn, hBn⟩
      obtain ⟨D1, d1, rfl⟩ := Kd.R_slice hRn
      have HR1 := Aside0.mk (Kd.R_lower hRn HB.out.size)
      replace HX := Aside0.mk (HX.out.below hBn HX.out.lt)
      replace HZ := Aside0.mk (HZ.out.below hBn HZ.out.lt)
      replace HS := Aside0.mk (Nat.le_trans HS.out hBn.size)
      replace HB := Aside0.mk (HB.out.trans (St.below_mono hBn HB.out.size))
      refine hK4.out _ _ ⟨fun _ => HX.out, ?_⟩
      clear hK4 K4 hRn hBn
      simp only [Act.put, List.setIfInBounds_toArray, List.set_cons_zero, List.set_cons_succ]
      refine wpAnyP_two (i := 7) (k := 15) (by kernel_rfl) (wpOp_run (i := 7) rfl (fun K7 hK7 => ?_)) (wpOp_run (i := 15) rfl (fun K15 hK15 => ?_))
      · go_simp
        refine (C3.out _ HB.out).mono ?_
        rintro e w5 ⟨vn, rfl, hRn, hBn⟩
        obtain ⟨D3, d3, rfl⟩ := Kd.R_slice hRn
        have HR3 := Aside0.mk (Kd.R_lower hRn HB.out.size)
        replace HX := Aside0.mk (HX.out.below hBn HX.out.lt)
        replace HZ := Aside0.mk (HZ.out.below hBn HZ.out.lt)
        replace HS := Aside0.mk (Nat.le_trans HS.out hBn.size)
        replace HB := Aside0.mk (HB.out.trans (St.below_mono hBn HB.out.size))
        replace HR1 := Aside0.mk (Kd.R_below HR1.out hBn)
        refine hK7.out _ _ ⟨fun _ => HX.out, ?_⟩
        clear hK7 K7 hRn hBn
        simp only [Act.put, List.setIfInBounds_toArray, List.set_cons_zero, List.set_cons_succ]
        refine wpAnyP_two (i := 10) (k := 15) (by kernel_rfl) (wpOp_run (i := 10) rfl (fun K10 hK10 => ?_)) (wpOp_run (i := 15) rfl (fun K15 hK15 => ?_))
        · go_simp
          refine (C4.out _ HB.out).mono ?_
          rintro e w6 ⟨vn, rfl, hRn, hBn⟩
          obtain ⟨D4, d4, rfl⟩ := Kd.R_slice hRn
          have HR4 := Aside0.mk (Kd.R_lower hRn HB.out.size)
          replace HX := Aside0.mk (HX.out.below hBn HX.out.lt)
          replace HZ := Aside0.mk (HZ.out.below hBn HZ.out.lt)
          replace HS := Aside0.mk (Nat.le_trans HS.out hBn.size)
          replace HB := Aside0.mk (HB.out.trans (St.below_mono hBn HB.out.size))
          replace HR1 := Aside0.mk (Kd.R_below HR1.out hBn)
          replace HR3 := Aside0.mk (Kd.R_below HR3.out hBn)
          refine hK10.out _ _ ⟨fun _ => HX.out, ?_⟩
          clear hK10 K10 hRn hBn
          simp only [Act.put, List.setIfInBounds_toArray, List.set_cons_zero, List.set_cons_succ]
          refine wpAnyP_two (i := 13) (k := 15) (by kernel_rfl) (wpOp_run (i := 13) rfl (fun K13 hK13 => ?_)) (wpOp_run (i := 15) rfl (fun K15 hK15 => ?_))
          · go_simp
            refine (C6.out _ HB.out).mono ?_
            rintro e w7 ⟨vn, rfl, hRn, hBn⟩
            obtain ⟨D6, d6, rfl⟩ := Kd.R_slice hRn
            have HR6 := Aside0.mk (Kd.R_lower hRn HB.out.size)
            replace HX := Aside0.mk (HX.out.below hBn HX.out.lt)
            replace HZ := Aside0.mk (HZ.out.below hBn HZ.out.lt)
            replace HS := Aside0.mk (Nat.le_trans HS.out hBn.size)
            replace HB := Aside0.mk (HB.out.trans (St.below_mono hBn HB.out.size))
            replace HR1 := Aside0.mk (Kd.R_below HR1.out hBn)
            replace HR3 := Aside0.mk (Kd.R_below HR3.out hBn)
            replace HR4 := Aside0.mk (Kd.R_below HR4.out hBn)
            refine hK13.out _ _ ⟨fun _ => HX.out, ?_⟩
            clear hK13 K13 hRn hBn
            simp only [Act.put, List.setIfInBounds_toArray, List.set_cons_zero, List.set_cons_succ]
            refine wpAnyP_two (i := 14) (k := 15) (by kernel_rfl) (wpOp_run (i := 14) rfl (fun K14 hK14 => ?_)) (wpOp_run (i := 15) rfl (fun K15 hK15 => ?_))
            · go_simp
              refine hK14.out _ _ ⟨fun _ => HX.out, ?_⟩
              clear hK14 K14
              simp only [Act.put, List.setIfInBounds_toArray, List.set_cons_zero, List.set_cons_succ]
              refine wpAnyP_one (i := 15) (by kernel_rfl) (wpOp_run (i := 15) rfl (fun K15 hK15 => ?_))
              go_simp
              obtain ⟨g, hg⟩ : ∃ g, g = w7.heap.size := ⟨_, rfl⟩
              obtain ⟨w8, hwn⟩ : ∃ w8, w8 = w7.alloc (.cells #[.slice none 0 0, .slice none 0 0, .slice none 0 0, .slice none 0 0, .slice none 0 0, .slice none 0 0, .slice none 0 0, .int .i64 0, .slice none 0 0, .slice none 0 0, .slice none 0 0] 61) := ⟨_, rfl⟩
              rw [← hwn, ← hg]
              have hBn : Below w7.heap.size w7 w8 := by rw [hwn]; exact below_alloc (Below.refl _ _) _
              have HG := Aside0.mk (show Row w8 g 61 Z61 by rw [hwn, hg]; exact St.Row.made _ _ _ rfl)
              have HL := Aside0.mk (show w.heap.size + 2 ≤ g by rw [hg]; exact HS.out)
              replace HX := Aside0.mk (HX.out.below hBn HX.out.lt)
              replace HZ := Aside0.mk (HZ.out.below hBn HZ.out.lt)
              replace HS := Aside0.mk (Nat.le_trans HS.out hBn.size)
              replace HB := Aside0.mk (HB.out.trans (St.below_mono hBn HB.out.size))
              replace HR1 := Aside0.mk (Kd.R_below HR1.out hBn)
              replace HR3 := Aside0.mk (Kd.R_below HR3.out hBn)
              replace HR4 := Aside0.mk (Kd.R_below HR4.out hBn)
              replace HR6 := Aside0.mk (Kd.R_below HR6.out hBn)
              refine hK15.out _ _ ⟨fun _ => HX.out, ?_⟩
              clear hK15 K15 hwn hg hBn
              simp only [Act.put, List.setIfInBounds_toArray, List.set_cons_zero, List.set_cons_succ]
              refine wpAnyP_one (i := 16) (by kernel_rfl) (wpOp_run (i := 16) rfl (fun K16 hK16 => ?_))
              have y0 : w8.cell? ⟨g, 0, none⟩ = some (.slice none 0 0) := HG.out.cell 0; have z0 := HG.out.frozen 0
              have y1 : w8.cell? ⟨g, 1, none⟩ = some (.slice none 0 0) := HG.out.cell 1; have z1 := HG.out.frozen 1
              have y2 : w8.cell? ⟨g, 2, none⟩ = some (.slice none 0 0) := HG.out.cell 2; have z2 := HG.out.frozen 2
              have y3 : w8.cell? ⟨g, 3, none⟩ = some (.slice none 0 0) := HG.out.cell 3; have z3 := HG.out.frozen 3
              have y4 : w8.cell? ⟨g, 4, none⟩ = some (.slice none 0 0) := HG.out.cell 4; have z4 := HG.out.frozen 4
              have y5 : w8.cell? ⟨g, 5, none⟩ = some (.slice none 0 0) := HG.out.cell 5; have z5 := HG.out.frozen 5
              have y6 : w8.cell? ⟨g, 6, none⟩ = some (.slice none 0 0) := HG.out.cell 6; have z6 := HG.out.frozen 6
              have y7 : w8.cell? ⟨g, 7, none⟩ = some (.int .i64 0) := HG.out.cell 7; have z7 := HG.out.frozen 7
              have y8 : w8.cell? ⟨g, 8, none⟩ = some (.slice none 0 0) := HG.out.cell 8; have z8 := HG.out.frozen 8
              have y9 : w8.cell? ⟨g, 9, none⟩ = some (.slice none 0 0) := HG.out.cell 9; have z9 := HG.out.frozen 9
              have y10 : w8.cell? ⟨g, 10, none⟩ = some (.slice none 0 0) := HG.out.cell 10; have z10 := HG.out.frozen 10
              have HM := Aside0.mk (Mv.first (m := m) HX.out HZ.out HL.out HB.out HG.out HR1.out HR3.out HR4.out HR6.out)
              go_simp
              refine hK16.out _ (put11 w8 g (.slice none 0 0) (.slice D1 m.f1.length d1) (.slice none 0 0) (.slice D3 m.f3.length d3) (.slice D4 m.f4.length d4) (.slice none 0 0) (.slice D6 m.f6.length d6) (.int .i64 m.f7) (.slice none 0 0) (.slice none 0 0) (.slice none 0 0)) ⟨fun hj => absurd hj (by decide), ?_⟩
              clear hK16 K16 y0 z0 y1 z1 y2 z2 y3 z3 y4 z4 y5 z5 y6 z6 y7 z7 y8 z8 y9 z9 y10 z10
              generalize put11 w8 g (.slice none 0 0) (.slice D1 m.f1.length d1) (.slice none 0 0) (.slice D3 m.f3.length d3) (.slice D4 m.f4.length d4) (.slice none 0 0) (.slice D6 m.f6.length d6) (.int .i64 m.f7) (.slice none 0 0) (.slice none 0 0) (.slice none 0 0) = wz at HM ⊢
              simp only [Act.put, List.setIfInBounds_toArray, List.set_cons_zero, List.set_cons_succ]
              refine wpAnyP_done (by kernel_rfl) ?_ _
              go_wp2_with fail
              go_meet
              case rel => exact ⟨g, _, _, _, _, rfl, HM⟩
            · go_simp
              obtain ⟨g, hg⟩ : ∃ g, g = w7.heap.size := ⟨_, rfl⟩
              obtain ⟨w8, hwn⟩ : ∃ w8, w8 = w7.alloc (.cells #[.slice none 0 0, .slice none 0 0, .slice none 0 0, .slice none 0 0, .slice none 0 0, .slice none 0 0, .slice none 0 0, .int .i64 0, .slice none 0 0, .slice none 0 0, .slice none 0 0] 61) := ⟨_, rfl⟩
              rw [← hwn, ← hg]
              have hBn : Below w7.heap.size w7 w8 := by rw [hwn]; exact below_alloc (Below.refl _ _) _
              have HG := Aside0.mk (show Row w8 g 61 Z61 by rw [hwn, hg]; exact St.Row.made _ _ _ rfl)
              have HL := Aside0.mk (show w.heap.size + 2 ≤ g by rw [hg]; exact HS.out)
              replace HX := Aside0.mk (HX.out.below hBn HX.out.lt)
              replace HZ := Aside0.mk (HZ.out.below hBn HZ.out.lt)
              replace HS := Aside0.mk (Nat.le_trans HS.out hBn.size)
              replace HB := Aside0.mk (HB.out.trans (St.below_mono hBn HB.out.size))
              replace HR1 := Aside0.mk (Kd.R_below HR1.out hBn)
              replace HR3 := Aside0.mk (Kd.R_below HR3.out hBn)
              replace HR4 := Aside0.mk (Kd.R_below HR4.out hBn)
              replace HR6 := Aside0.mk (Kd.R_below HR6.out hBn)
              refine hK15.out _ _ ⟨fun _ => HX.out, ?_⟩
              clear hK15 K15 hwn hg hBn
              simp only [Act.put, List.setIfInBounds_toArray, List.set_cons_zero, List.set_cons_succ]
              refine wpAnyP_one (i := 14) (by kernel_rfl) (wpOp_run (i := 14) rfl (fun K14 hK14 => ?_))
              go_simp
              refine hK14.out _ _ ⟨fun _ => HX.out, ?_⟩
              clear hK14 K14
              simp only [Act.put, List.setIfInBounds_toArray, List.set_cons_zero, List.set_cons_succ]
              refine wpAnyP_one (i := 16) (by kernel_rfl) (wpOp_run (i := 16) rfl (fun K16 hK16 => ?_))
              have y0 : w8.cell? ⟨g, 0, none⟩ = some (.slice none 0 0) := HG.out.cell 0; have z0 := HG.out.frozen 0
              have y1 : w8.cell? ⟨g, 1, none⟩ = some (.slice none 0 0) := HG.out.cell 1; have z1 := HG.out.frozen 1
              have y2 : w8.cell? ⟨g, 2, none⟩ = some (.slice none 0 0) := HG.out.cell 2; have z2 := HG.out.frozen 2
              have y3 : w8.cell? ⟨g, 3, none⟩ = some (.slice none 0 0) := HG.out.cell 3; have z3 := HG.out.frozen 3
              have y4 : w8.cell? ⟨g, 4, none⟩ = some (.slice none 0 0) := HG.out.cell 4; have z4 := HG.out.frozen 4
              have y5 : w8.cell? ⟨g, 5, none⟩ = some (.slice none 0 0) := HG.out.cell 5; have z5 := HG.out.frozen 5
              have y6 : w8.cell? ⟨g, 6, none⟩ = some (.slice none 0 0) := HG.out.cell 6; have z6 := HG.out.frozen 6
              have y7 : w8.cell? ⟨g, 7, none⟩ = some (.int .i64 0) := HG.out.cell 7; have z7 := HG.out.frozen 7
              have y8 : w8.cell? ⟨g, 8, none⟩ = some (.slice none 0 0) := HG.out.cell 8; have z8 := HG.out.frozen 8
              have y9 : w8.cell? ⟨g, 9, none⟩ = some (.slice none 0 0) := HG.out.cell 9; have z9 := HG.out.frozen 9
              have y10 : w8.cell? ⟨g, 10, none⟩ = some (.slice none 0 0) := HG.out.cell 10; have z10 := HG.out.frozen 10
              have HM := Aside0.mk (Mv.first (m := m) HX.out HZ.out HL.out HB.out HG.out HR1.out HR3.out HR4.out HR6.out)
              go_simp
              refine hK16.out _ (put11 w8 g (.slice none 0 0) (.slice D1 m.f1.length d1) (.slice none 0 0) (.slice D3 m.f3.length d3) (.slice D4 m.f4.length d4) (.slice none 0 0) (.slice D6 m.f6.length d6) (.int .i64 m.f7) (.slice none 0 0) (.slice none 0 0) (.slice none 0 0)) ⟨fun hj => absurd hj (by decide), ?_⟩
              clear hK16 K16 y0 z0 y1 z1 y2 z2 y3 z3 y4 z4 y5 z5 y6 z6 y7 z7 y8 z8 y9 z9 y10 z10
              generalize put11 w8 g (.slice none 0 0) (.slice D1 m.f1.length d1) (.slice none 0 0) (.slice D3 m.f3.length d3) (.slice D4 m.f4.length d4) (.slice none 0 0) (.slice D6 m.f6.length d6) (.int .i64 m.f7) (.slice none 0 0) (.slice none 0 0) (.slice none 0 0) = wz at HM ⊢
              simp only [Act.put, List.setIfInBounds_toArray, List.set_cons_zero, List.set_cons_succ]
              refine wpAnyP_done (by kernel_rfl) ?_ _
              go_wp2_with fail
              go_meet
              case rel => exact ⟨g, _, _, _, _, rfl, HM⟩
          · go_simp
            obtain ⟨g, hg⟩ : ∃ g, g = w6.heap.size := ⟨_, rfl⟩
            obtain ⟨w7, hwn⟩ : ∃ w7, w7 = w6.alloc (.cells #[.slice none 0 0, .slice none 0 0, .slice none 0 0, .slice none 0 0, .slice none 0 0, .slice none 0 0, .slice none 0 0, .int .i64 0, .slice none 0 0, .slice none 0 0, .slice none 0 0] 61) := ⟨_, rfl⟩
            rw [← hwn, ← hg]
            have hBn : Below w6.heap.size w6 w7 := by rw [hwn]; exact below_alloc (Below.refl _ _) _
            have HG := Aside0.mk (show Row w7 g 61 Z61 by rw [hwn, hg]; exact St.Row.made _ _ _ rfl)
            have HL := Aside0.mk (show w.heap.size + 2 ≤ g by rw [hg]; exact HS.out)
            replace HX := Aside0.mk (HX.out.below hBn HX.out.lt)
            replace HZ := Aside0.mk (HZ.out.below hBn HZ.out.lt)
            replace HS := Aside0.mk (Nat.le_trans HS.out hBn.size)
            replace HB := Aside0.mk (HB.out.trans (St.below_mono hBn HB.out.size))
            replace HR1 := Aside0.mk (Kd.R_below HR1.out hBn)
            replace HR3 := Aside0.mk (Kd.R_below HR3.out hBn)
            replace HR4 := Aside0.mk (Kd.R_below HR4.out hBn)
            refine hK15.out _ _ ⟨fun _ => HX.out, ?_⟩
            clear hK15 K15 hwn hg hBn
            simp only [Act.put, List.setIfInBounds_toArray, List.set_cons_zero, List.set_cons_succ]
            refine wpAnyP_one (i := 13) (by kernel_rfl) (wpOp_run (i := 13) rfl (fun K13 hK13 => ?_))
            go_simp
            refine (C6.out _ HB.out).mono ?_
            rintro e w8 ⟨vn, rfl, hRn, hBn⟩
            obtain ⟨D6, d6, rfl⟩ := Kd.R_slice hRn
            have HR6 := Aside0.mk (Kd.R_lower hRn HB.out.size)
            replace HX := Aside0.mk (HX.out.below hBn HX.out.lt)
            replace HZ := Aside0.mk (HZ.out.below hBn HZ.out.lt)
            replace HS := Aside0.mk (Nat.le_trans HS.out hBn.size)
            replace HB := Aside0.mk (HB.out.trans (St.below_mono hBn HB.out.size))
            replace HR1 := Aside0.mk (Kd.R_below HR1.out hBn)
            replace HR3 := Aside0.mk (Kd.R_below HR3.out hBn)
            replace HR4 := Aside0.mk (Kd.R_below HR4.out hBn)
            replace HG := Aside0.mk (HG.out.below hBn HG.out.lt)
            refine hK13.out _ _ ⟨fun _ => HX.out, ?_⟩
            clear hK13 K13 hRn hBn
            simp only [Act.put, List.setIfInBounds_toArray, List.set_cons_zero, List.set_cons_succ]
            refine wpAnyP_one (i := 14) (by kernel_rfl) (wpOp_run (i := 14) rfl (fun K14 hK14 => ?_))
            go_simp
            refine hK14.out _ _ ⟨fun _ => HX.out, ?_⟩
            clear hK14 K14
            simp only [Act.put, List.setIfInBounds_toArray, List.set_cons_zero, List.set_cons_succ]
            refine wpAnyP_one (i := 16) (by kernel_rfl) (wpOp_run (i := 16) rfl (fun K16 hK16 => ?_))
            have y0 : w8.cell? ⟨g, 0, none⟩ = some (.slice none 0 0) := HG.out.cell 0; have z0 := HG.out.frozen 0
            have y1 : w8.cell? ⟨g, 1, none⟩ = some (.slice none 0 0) := HG.out.cell 1; have z1 := HG.out.frozen 1
            have y2 : w8.cell? ⟨g, 2, none⟩ = some (.slice none 0 0) := HG.out.cell 2; have z2 := HG.out.frozen 2
            have y3 : w8.cell? ⟨g, 3, none⟩ = some (.slice none 0 0) := HG.out.cell 3; have z3 := HG.out.frozen 3
            have y4 : w8.cell? ⟨g, 4, none⟩ = some (.slice none 0 0) := HG.out.cell 4; have z4 := HG.out.frozen 4
            have y5 : w8.cell? ⟨g, 5, none⟩ = some (.slice none 0 0) := HG.out.cell 5; have z5 := HG.out.frozen 5
            have y6 : w8.cell? ⟨g, 6, none⟩ = some (.slice none 0 0) := HG.out.cell 6; have z6 := HG.out.frozen 6
            have y7 : w8.cell? ⟨g, 7, none⟩ = some (.int .i64 0) := HG.out.cell 7; have z7 := HG.out.frozen 7
            have y8 : w8.cell? ⟨g, 8, none⟩ = some (.slice none 0 0) := HG.out.cell 8; have z8 := HG.out.frozen 8
            have y9 : w8.cell? ⟨g, 9, none⟩ = some (.slice none 0 0) := HG.out.cell 9; have z9 := HG.out.frozen 9
            have y10 : w8.cell? ⟨g, 10, none⟩ = some (.slice none 0 0) := HG.out.cell 10; have z10 := HG.out.frozen 10
            have HM := Aside0.mk (Mv.first (m := m) HX.out HZ.out HL.out HB.out HG.out HR1.out HR3.out HR4.out HR6.out)
            go_simp
            refine hK16.out _ (put11 w8 g (.slice none 0 0) (.slice D1 m.f1.length d1) (.slice none 0 0) (.slice D3 m.f3.length d3) (.slice D4 m.f4.length d4) (.slice none 0 0) (.slice D6 m.f6.length d6) (.int .i64 m.f7) (.slice none 0 0) (.slice none 0 0) (.slice none 0 0)) ⟨fun hj => absurd hj (by decide), ?_⟩
            clear hK16 K16 y0 z0 y1 z1 y2 z2 y3 z3 y4 z4 y5 z5 y6 z6 y7 z7 y8 z8 y9 z9 y10 z10
            generalize put11 w8 g (.slice none 0 0) (.slice D1 m.f1.length d1) (.slice none 0 0) (.slice D3 m.f3.length d3) (.slice D4 m.f4.length d4) (.slice none 0 0) (.slice D6 m.f6.length d6) (.int .i64 m.f7) (.slice none 0 0) (.slice none 0 0) (.slice none 0 0) = wz at HM ⊢
            simp only [Act.put, List.setIfInBounds_toArray, List.set_cons_zero, List.set_cons_succ]
            refine wpAnyP_done (by kernel_rfl) ?_ _
            go_wp2_with fail
            go_meet
            case rel => exact ⟨g, _, _, _, _, rfl, HM⟩
        · go_simp
          obtain ⟨g, hg⟩ : ∃ g, g = w5.heap.size := ⟨_, rfl⟩
          obtain ⟨w6, hwn⟩ : ∃ w6, w6 = w5.alloc (.cells #[.slice none 0 0, .slice none 0 0, .slice none 0 0, .slice none 0 0, .slice none 0 0, .slice none 0 0, .slice none 0 0, .int .i64 0, .slice none 0 0, .slice none 0 0, .slice none 0 0] 61) := ⟨_, rfl⟩
          rw [← hwn, ← hg]
          have hBn : Below w5.heap.size w5 w6 := by rw [hwn]; exact below_alloc (Below.refl _ _) _
          have HG := Aside0.mk (show Row w6 g 61 Z61 by rw [hwn, hg]; exact St.Row.made _ _ _ rfl)
          have HL := Aside0.mk (show w.heap.size + 2 ≤ g by rw [hg]; exact HS.out)
          replace HX := Aside0.mk (HX.out.below hBn HX.out.lt)
          replace HZ := Aside0.mk (HZ.out.below hBn HZ.out.lt)
          replace HS := Aside0.mk (Nat.le_trans HS.out hBn.size)
          replace HB := Aside0.mk (HB.out.trans (St.below_mono hBn HB.out.size))
          replace HR1 := Aside0.mk (Kd.R_below HR1.out hBn)
          replace HR3 := Aside0.mk (Kd.R_below HR3.out hBn)
          refine hK15.out _ _ ⟨fun _ => HX.out, ?_⟩
          clear hK15 K15 hwn hg hBn
          simp only [Act.put, List.setIfInBounds_toArray, List.set_cons_zero, List.set_cons_succ]
          refine wpAnyP_one (i := 10) (by kernel_rfl) (wpOp_run (i := 10) rfl (fun K10 hK10 => ?_))
          go_simp
          refine (C4.out _ HB.out).mono ?_
          rintro e w7 ⟨vn, rfl, hRn, hBn⟩
          obtain ⟨D4, d4, rfl⟩ := Kd.R_slice hRn
          have HR4 := Aside0.mk (Kd.R_lower hRn HB.out.size)
          replace HX := Aside0.mk (HX.out.below hBn HX.out.lt)
          replace HZ := Aside0.mk (HZ.out.below hBn HZ.out.lt)
          replace HS := Aside0.mk (Nat.le_trans HS.out hBn.size)
          replace HB := Aside0.mk (HB.out.trans (St.below_mono hBn HB.out.size))
          replace HR1 := Aside0.mk (Kd.R_below HR1.out hBn)
          replace HR3 := Aside0.mk (Kd.R_below HR3.out hBn)
          replace HG := Aside0.mk (HG.out.below hBn HG.out.lt)
          refine hK10.out _ _ ⟨fun _ => HX.out, ?_⟩
          clear hK10 K10 hRn hBn
          simp only [Act.put, List.setIfInBounds_toArray, List.set_cons_zero, List.set_cons_succ]
          refine wpAnyP_one (i := 13) (by kernel_rfl) (wpOp_run (i := 13) rfl (fun K13 hK13 => ?_))
          go_simp
          refine (C6.out _ HB.out).mono ?_
          rintro e w8 ⟨vn, rfl, hRn, hBn⟩
          obtain ⟨D6, d6, rfl⟩ := Kd.R_slice hRn
          have HR6 := Aside0.mk (Kd.R_lower hRn HB.out.size)
          replace HX := Aside0.mk (HX.out.below hBn HX.out.lt)
          replace HZ := Aside0.mk (HZ.out.below hBn HZ.out.lt)
          replace HS := Aside0.mk (Nat.le_trans HS.out hBn.size)
          replace HB := Aside0.mk (HB.out.trans (St.below_mono hBn HB.out.size))
          replace HR1 := Aside0.mk (Kd.R_below HR1.out hBn)
          replace HR3 := Aside0.mk (Kd.R_below HR3.out hBn)
          replace HR4 := Aside0.mk (Kd.R_below HR4.out hBn)
          replace HG := Aside0.mk (HG.out.below hBn HG.out.lt)
          refine hK13.out _ _ ⟨fun _ => HX.out, ?_⟩
          clear hK13 K13 hRn hBn
          simp only [Act.put, List.setIfInBounds_toArray, List.set_cons_zero, List.set_cons_succ]
          refine wpAnyP_one (i := 14) (by kernel_rfl) (wpOp_run (i := 14) rfl (fun K14 hK14 => ?_))
          go_simp
          refine hK14.out _ _ ⟨fun _ => HX.out, ?_⟩
          clear hK14 K14
          simp only [Act.put, List.setIfInBounds_toArray, List.set_cons_zero, List.set_cons_succ]
          refine wpAnyP_one (i := 16) (by kernel_rfl) (wpOp_run (i := 16) rfl (fun K16 hK16 => ?_))
          have y0 : w8.cell? ⟨g, 0, none⟩ = some (.slice none 0 0) := HG.out.cell 0; have z0 := HG.out.frozen 0
          have y1 : w8.cell? ⟨g, 1, none⟩ = some (.slice none 0 0) := HG.out.cell 1; have z1 := HG.out.frozen 1
          have y2 : w8.cell? ⟨g, 2, none⟩ = some (.slice none 0 0) := HG.out.cell 2; have z2 := HG.out.frozen 2
          have y3 : w8.cell? ⟨g, 3, none⟩ = some (.slice none 0 0) := HG.out.cell 3; have z3 := HG.out.frozen 3
          have y4 : w8.cell? ⟨g, 4, none⟩ = some (.slice none 0 0) := HG.out.cell 4; have z4 := HG.out.frozen 4
          have y5 : w8.cell? ⟨g, 5, none⟩ = some (.slice none 0 0) := HG.out.cell 5; have z5 := HG.out.frozen 5
          have y6 : w8.cell? ⟨g, 6, none⟩ = some (.slice none 0 0) := HG.out.cell 6; have z6 := HG.out.frozen 6
          have y7 : w8.cell? ⟨g, 7, none⟩ = some (.int .i64 0) := HG.out.cell 7; have z7 := HG.out.frozen 7
          have y8 : w8.cell? ⟨g, 8, none⟩ = some (.slice none 0 0) := HG.out.cell 8; have z8 := HG.out.frozen 8
          have y9 : w8.cell? ⟨g, 9, none⟩ = some (.slice none 0 0) := HG.out.cell 9; have z9 := HG.out.frozen 9
          have y10 : w8.cell? ⟨g, 10, none⟩ = some (.slice none 0 0) := HG.out.cell 10; have z10 := HG.out.frozen 10
          have HM := Aside0.mk (Mv.first (m := m) HX.out HZ.out HL.out HB.out HG.out HR1.out HR3.out HR4.out HR6.out)
          go_simp
          refine hK16.out _ (put11 w8 g (.slice none 0 0) (.slice D1 m.f1.length d1) (.slice none 0 0) (.slice D3 m.f3.length d3) (.slice D4 m.f4.length d4) (.slice none 0 0) (.slice D6 m.f6.length d6) (.int .i64 m.f7) (.slice none 0 0) (.slice none 0 0) (.slice none 0 0)) ⟨fun hj => absurd hj (by decide), ?_⟩
          clear hK16 K16 y0 z0 y1 z1 y2 z2 y3 z3 y4 z4 y5 z5 y6 z6 y7 z7 y8 z8 y9 z9 y10 z10
          generalize put11 w8 g (.slice none 0 0) (.slice D1 m.f1.length d1) (.slice none 0 0) (.slice D3 m.f3.length d3) (.slice D4 m.f4.length d4) (.slice none 0 0) (.slice D6 m.f6.length d6) (.int .i64 m.f7) (.slice none 0 0) (.slice none 0 0) (.slice none 0 0) = wz at HM ⊢
          simp only [Act.put, List.setIfInBounds_toArray, List.set_cons_zero, List.set_cons_succ]
          refine wpAnyP_done (by kernel_rfl) ?_ _
          go_wp2_with fail
          go_meet
          case rel => exact ⟨g, _, _, _, _, rfl, HM⟩
      · go_simp
        obtain ⟨g, hg⟩ : ∃ g, g = w4.heap.size := ⟨_, rfl⟩
        obtain ⟨w5, hwn⟩ : ∃ w5, w5 = w4.alloc (.cells #[.slice none 0 0, .slice none 0 0, .slice none 0 0, .slice none 0 0, .slice none 0 0, .slice none 0 0, .slice none 0 0, .int .i64 0, .slice none 0 0, .slice none 0 0, .slice none 0 0] 61) := ⟨_, rfl⟩
        rw [← hwn, ← hg]
        have hBn : Below w4.heap.size w4 w5 := by rw [hwn]; exact below_alloc (Below.refl _ _) _
        have HG := Aside0.mk (show Row w5 g 61 Z61 by rw [hwn, hg]; exact St.Row.made _ _ _ rfl)
        have HL := Aside0.mk (show w.heap.size + 2 ≤ g by rw [hg]; exact HS.out)
        replace HX := Aside0.mk (HX.out.below hBn HX.out.lt)
        replace HZ := Aside0.mk (HZ.out.below hBn HZ.out.lt)
        replace HS := Aside0.mk (Nat.le_trans HS.out hBn.size)
        replace HB := Aside0.mk (HB.out.trans (St.below_mono hBn HB.out.size))
        replace HR1 := Aside0.mk (Kd.R_below HR1.out hBn)
        refine hK15.out _ _ ⟨fun _ => HX.out, ?_⟩
        clear hK15 K15 hwn hg hBn
        simp only [Act.put, List.setIfInBounds_toArray, List.set_cons_zero, List.set_cons_succ]
        refine wpAnyP_one (i := 7) (by kernel_rfl) (wpOp_run (i := 7) rfl (fun K7 hK7 => ?_))
        go_simp
        refine (C3.out _ HB.out).mono ?_
        rintro e w6 ⟨vn, rfl, hRn, hBn⟩
        obtain ⟨D3, d3, rfl⟩ := Kd.R_slice hRn
        have HR3 := Aside0.mk (Kd.R_lower hRn HB.out.size)
        replace HX := Aside0.mk (HX.out.below hBn HX.out.lt)
        replace HZ := Aside0.mk (HZ.out.below hBn HZ.out.lt)
        replace HS := Aside0.mk (Nat.le_trans HS.out hBn.size)
        replace HB := Aside0.mk (HB.out.trans (St.below_mono hBn HB.out.size))
        replace HR1 := Aside0.mk (Kd.R_below HR1.out hBn)
        replace HG := Aside0.mk (HG.out.below hBn HG.out.lt)
        refine hK7.out _ _ ⟨fun _ => HX.out, ?_⟩
        clear hK7 K7 hRn hBn
        simp only [Act.put, List.setIfInBounds_toArray, List.set_cons_zero, List.set_cons_succ]
        refine wpAnyP_one (i := 10) (by kernel_rfl) (wpOp_run (i := 10) rfl (fun K10 hK10 => ?_))
        go_simp
        refine (C4.out _ HB.out).mono ?_
        rintro e w7 ⟨vn, rfl, hRn, hBn⟩
        obtain ⟨D4, d4, rfl⟩ := Kd.R_slice hRn
        have HR4 := Aside0.mk (Kd.R_lower hRn HB.out.size)
        replace HX := Aside0.mk (HX.out.below hBn HX.out.lt)
        replace HZ := Aside0.mk (HZ.out.below hBn HZ.out.lt)
        replace HS := Aside0.mk (Nat.le_trans HS.out hBn.size)
        replace HB := Aside0.mk (HB.out.trans (St.below_mono hBn HB.out.size))
        replace HR1 := Aside0.mk (Kd.R_below HR1.out hBn)
        replace HR3 := Aside0.mk (Kd.R_below HR3.out hBn)
        replace HG := Aside0.mk (HG.out.below hBn HG.out.lt)
        refine hK10.out _ _ ⟨fun _ => HX.out, ?_⟩
        clear hK10 K10 hRn hBn
        simp only [Act.put, List.setIfInBounds_toArray, List.set_cons_zero, List.set_cons_succ]
        refine wpAnyP_one (i := 13) (by kernel_rfl) (wpOp_run (i := 13) rfl (fun K13 hK13 => ?_))
        go_simp
        refine (C6.out _ HB.out).mono ?_
        rintro e w8 ⟨vn, rfl, hRn, hBn⟩
        obtain ⟨D6, d6, rfl⟩ := Kd.R_slice hRn
        have HR6 := Aside0.mk (Kd.R_lower hRn HB.out.size)
        replace HX := Aside0.mk (HX.out.below hBn HX.out.lt)
        replace HZ := Aside0.mk (HZ.out.below hBn HZ.out.lt)
        replace HS := Aside0.mk (Nat.le_trans HS.out hBn.size)
        replace HB := Aside0.mk (HB.out.trans (St.below_mono hBn HB.out.size))
        replace HR1 := Aside0.mk (Kd.R_below HR1.out hBn)
        replace HR3 := Aside0.mk (Kd.R_below HR3.out hBn)
        replace HR4 := Aside0.mk (Kd.R_below HR4.out hBn)
        replace HG := Aside0.mk (HG.out.below hBn HG.out.lt)
        refine hK13.out _ _ ⟨fun _ => HX.out, ?_⟩
        clear hK13 K13 hRn hBn
        simp only [Act.put, List.setIfInBounds_toArray, List.set_cons_zero, List.set_cons_succ]
        refine wpAnyP_one (i := 14) (by kernel_rfl) (wpOp_run (i := 14) rfl (fun K14 hK14 => ?_))
        go_simp
        refine hK14.out _ _ ⟨fun _ => HX.out, ?_⟩
        clear hK14 K14
        simp only [Act.put, List.setIfInBounds_toArray, List.set_cons_zero, List.set_cons_succ]
        refine wpAnyP_one (i := 16) (by kernel_rfl) (wpOp_run (i := 16) rfl (fun K16 hK16 => ?_))
        have y0 : w8.cell? ⟨g, 0, none⟩ = some (.slice none 0 0) := HG.out.cell 0; have z0 := HG.out.frozen 0
        have y1 : w8.cell? ⟨g, 1, none⟩ = some (.slice none 0 0) := HG.out.cell 1; have z1 := HG.out.frozen 1
        have y2 : w8.cell? ⟨g, 2, none⟩ = some (.slice none 0 0) := HG.out.cell 2; have z2 := HG.out.frozen 2
        have y3 : w8.cell? ⟨g, 3, none⟩ = some (.slice none 0 0) := HG.out.cell 3; have z3 := HG.out.frozen 3
        have y4 : w8.cell? ⟨g, 4, none⟩ = some (.slice none 0 0) := HG.out.cell 4; have z4 := HG.out.frozen 4
        have y5 : w8.cell? ⟨g, 5, none⟩ = some (.slice none 0 0) := HG.out.cell 5; have z5 := HG.out.frozen 5
        have y6 : w8.cell? ⟨g, 6, none⟩ = some (.slice none 0 0) := HG.out.cell 6; have z6 := HG.out.frozen 6
        have y7 : w8.cell? ⟨g, 7, none⟩ = some (.int .i64 0) := HG.out.cell 7; have z7 := HG.out.frozen 7
        have y8 : w8.cell? ⟨g, 8, none⟩ = some (.slice none 0 0) := HG.out.cell 8; have z8 := HG.out.frozen 8
        have y9 : w8.cell? ⟨g, 9, none⟩ = some (.slice none 0 0) := HG.out.cell 9; have z9 := HG.out.frozen 9
        have y10 : w8.cell? ⟨g, 10, none⟩ = some (.slice none 0 0) := HG.out.cell 10; have z10 := HG.out.frozen 10
        have HM := Aside0.mk (Mv.first (m := m) HX.out HZ.out HL.out HB.out HG.out HR1.out HR3.out HR4.out HR6.out)
        go_simp
        refine hK16.out _ (put11 w8 g (.slice none 0 0) (.slice D1 m.f1.length d1) (.slice none 0 0) (.slice D3 m.f3.length d3) (.slice D4 m.f4.length d4) (.slice none 0 0) (.slice D6 m.f6.length d6) (.int .i64 m.f7) (.slice none 0 0) (.slice none 0 0) (.slice none 0 0)) ⟨fun hj => absurd hj (by decide), ?_⟩
        clear hK16 K16 y0 z0 y1 z1 y2 z2 y3 z3 y4 z4 y5 z5 y6 z6 y7 z7 y8 z8 y9 z9 y10 z10
        generalize put11 w8 g (.slice none 0 0) (.slice D1 m.f1.length d1) (.slice none 0 0) (.slice D3 m.f3.length d3) (.slice D4 m.f4.length d4) (.slice none 0 0) (.slice D6 m.f6.length d6) (.int .i64 m.f7) (.slice none 0 0) (.slice none 0 0) (.slice none 0 0) = wz at HM ⊢
        simp only [Act.put, List.setIfInBounds_toArray, List.set_cons_zero, List.set_cons_succ]
        refine wpAnyP_done (by kernel_rfl) ?_ _
        go_wp2_with fail
        go_meet
        case rel => exact ⟨g, _, _, _, _, rfl, HM⟩
    · go_simp
      obtain ⟨g, hg⟩ : ∃ g, g = w3.heap.size := ⟨_, rfl⟩
      obtain ⟨w4, hwn⟩ : ∃ w4, w4 = w3.alloc (.cells #[.slice none 0 0, .slice none 0 0, .slice none 0 0, .slice none 0 0, .slice none 0 0, .slice none 0 0, .slice none 0 0, .int .i64 0, .slice none 0 0, .slice none 0 0, .slice none 0 0] 61) := ⟨_, rfl⟩
      rw [← hwn, ← hg]
      have hBn : Below w3.heap.size w3 w4 := by rw [hwn]; exact below_alloc (Below.refl _ _) _
      have HG := Aside0.mk (show Row w4 g 61 Z61 by rw [hwn, hg]; exact St.Row.made _ _ _ rfl)
      have HL := Aside0.mk (show w.heap.size + 2 ≤ g by rw [hg]; exact HS.out)
      replace HX := Aside0.mk (HX.out.below hBn HX.out.lt)
      replace HZ := Aside0.mk (HZ.out.below hBn HZ.out.lt)
      replace HS := Aside0.mk (Nat.le_trans HS.out hBn.size)
      replace HB := Aside0.mk (HB.out.trans (St.below_mono hBn HB.out.size))
      refine hK15.out _ _ ⟨fun _ => HX.out, ?_⟩
      clear hK15 K15 hwn hg hBn
      simp only [Act.put, List.setIfInBounds_toArray, List.set_cons_zero, List.set_cons_succ]
      refine wpAnyP_one (i := 4) (by kernel_rfl) (wpOp_run (i := 4) rfl (fun K4 hK4 => ?_))
      go_simp
      refine (C1.out _ HB.out).mono ?_
      rintro e w5 ⟨vn, rfl, hRn, hBn⟩
      obtain ⟨D1, d1, rfl⟩ := Kd.R_slice hRn
      have HR1 := Aside0.mk (Kd.R_lower hRn HB.out.size)
      replace HX := Aside0.mk (HX.out.below hBn HX.out.lt)
      replace HZ := Aside0.mk (HZ.out.below hBn HZ.out.lt)
      replace HS := Aside0.mk (Nat.le_trans HS.out hBn.size)
      replace HB := Aside0.mk (HB.out.trans (St.below_mono hBn HB.out.size))
      replace HG := Aside0.mk (HG.out.below hBn HG.out.lt)
      refine hK4.out _ _ ⟨fun _ => HX.out, ?_⟩
      clear hK4 K4 hRn hBn
      simp only [Act.put, List.setIfInBounds_toArray, List.set_cons_zero, List.set_cons_succ]
      refine wpAnyP_one (i := 7) (by kernel_rfl) (wpOp_run (i := 7) rfl (fun K7 hK7 => ?_))
      go_simp
      refine (C3.out _ HB.out).mono ?_
      rintro e w6 ⟨vn, rfl, hRn, hBn⟩
      obtain ⟨D3, d3, rfl⟩ := Kd.R_slice hRn
      have HR3 := Aside0.mk (Kd.R_lower hRn HB.out.size)
      replace HX := Aside0.mk (HX.out.below hBn HX.out.lt)
      replace HZ := Aside0.mk (HZ.out.below hBn HZ.out.lt)
      replace HS := Aside0.mk (Nat.le_trans HS.out hBn.size)
      replace HB := Aside0.mk (HB.out.trans (St.below_mono hBn HB.out.size))
      replace HR1 := Aside0.mk (Kd.R_below HR1.out hBn)
      replace HG := Aside0.mk (HG.out.below hBn HG.out.lt)
      refine hK7.out _ _ ⟨fun _ => HX.out, ?_⟩
      clear hK7 K7 hRn hBn
      simp only [Act.put, List.setIfInBounds_toArray, List.set_cons_zero, List.set_cons_succ]
      refine wpAnyP_one (i := 10) (by kernel_rfl) (wpOp_run (i := 10) rfl (fun K10 hK10 => ?_))
      go_simp
      refine (C4.out _ HB.out).mono ?_
      rintro e w7 ⟨vn, rfl, hRn, hBn⟩
      obtain ⟨D4, d4, rfl⟩ := Kd.R_slice hRn
      have HR4 := Aside0.mk (Kd.R_lower hRn HB.out.size)
      replace HX := Aside0.mk (HX.out.below hBn HX.out.lt)
      replace HZ := Aside0.mk (HZ.out.below hBn HZ.out.lt)
      replace HS := Aside0.mk (Nat.le_trans HS.out hBn.size)
      replace HB := Aside0.mk (HB.out.trans (St.below_mono hBn HB.out.size))
      replace HR1 := Aside0.mk (Kd.R_below HR1.out hBn)
      replace HR3 := Aside0.mk (Kd.R_below HR3.out hBn)
      replace HG := Aside0.mk (HG.out.below hBn HG.out.lt)
      refine hK10.out _ _ ⟨fun _ => HX.out, ?_⟩
      clear hK10 K10 hRn hBn
      simp only [Act.put, List.setIfInBounds_toArray, List.set_cons_zero, List.set_cons_succ]
      refine wpAnyP_one (i := 13) (by kernel_rfl) (wpOp_run (i := 13) rfl (fun K13 hK13 => ?_))
      go_simp
      refine (C6.out _ HB.out).mono ?_
      rintro e w8 ⟨vn, rfl, hRn, hBn⟩
      obtain ⟨D6, d6, rfl⟩ := Kd.R_slice hRn
      have HR6 := Aside0.mk (Kd.R_lower hRn HB.out.size)
      replace HX := Aside0.mk (HX.out.below hBn HX.out.lt)
      replace HZ := Aside0.mk (HZ.out.below hBn HZ.out.lt)
      replace HS := Aside0.mk (Nat.le_trans HS.out hBn.size)
      replace HB := Aside0.mk (HB.out.trans (St.below_mono hBn HB.out.size))
      replace HR1 := Aside0.mk (Kd.R_below HR1.out hBn)
      replace HR3 := Aside0.mk (Kd.R_below HR3.out hBn)
      replace HR4 := Aside0.mk (Kd.R_below HR4.out hBn)
      replace HG := Aside0.mk (HG.out.below hBn HG.out.lt)
      refine hK13.out _ _ ⟨fun _ => HX.out, ?_⟩
      clear hK13 K13 hRn hBn
      simp only [Act.put, List.setIfInBounds_toArray, List.set_cons_zero, List.set_cons_succ]
      refine wpAnyP_one (i := 14) (by kernel_rfl) (wpOp_run (i := 14) rfl (fun K14 hK14 => ?_))
      go_simp
      refine hK14.out _ _ ⟨fun _ => HX.out, ?_⟩
      clear hK14 K14
      simp only [Act.put, List.setIfInBounds_toArray, List.set_cons_zero, List.set_cons_succ]
      refine wpAnyP_one (i := 16) (by kernel_rfl) (wpOp_run (i := 16) rfl (fun K16 hK16 => ?_))
      have y0 : w8.cell? ⟨g, 0, none⟩ = some (.slice none 0 0) := HG.out.cell 0; have z0 := HG.out.frozen 0
      have y1 : w8.cell? ⟨g, 1, none⟩ = some (.slice none 0 0) := HG.out.cell 1; have z1 := HG.out.frozen 1
      have y2 : w8.cell? ⟨g, 2, none⟩ = some (.slice none 0 0) := HG.out.cell 2; have z2 := HG.out.frozen 2
      have y3 : w8.cell? ⟨g, 3, none⟩ = some (.slice none 0 0) := HG.out.cell 3; have z3 := HG.out.frozen 3
      have y4 : w8.cell? ⟨g, 4, none⟩ = some (.slice none 0 0) := HG.out.cell 4; have z4 := HG.out.frozen 4
      have y5 : w8.cell? ⟨g, 5, none⟩ = some (.slice none 0 0) := HG.out.cell 5; have z5 := HG.out.frozen 5
      have y6 : w8.cell? ⟨g, 6, none⟩ = some (.slice none 0 0) := HG.out.cell 6; have z6 := HG.out.frozen 6
      have y7 : w8.cell? ⟨g, 7, none⟩ = some (.int .i64 0) := HG.out.cell 7; have z7 := HG.out.frozen 7
      have y8 : w8.cell? ⟨g, 8, none⟩ = some (.slice none 0 0) := HG.out.cell 8; have z8 := HG.out.frozen 8
      have y9 : w8.cell? ⟨g, 9, none⟩ = some (.slice none 0 0) := HG.out.cell 9; have z9 := HG.out.frozen 9
      have y10 : w8.cell? ⟨g, 10, none⟩ = some (.slice none 0 0) := HG.out.cell 10; have z10 := HG.out.frozen 10
      have HM := Aside0.mk (Mv.first (m := m) HX.out HZ.out HL.out HB.out HG.out HR1.out HR3.out HR4.out HR6.out)
      go_simp
      refine hK16.out _ (put11 w8 g (.slice none 0 0) (.slice D1 m.f1.length d1) (.slice none 0 0) (.slice D3 m.f3.length d3) (.slice D4 m.f4.length d4) (.slice none 0 0) (.slice D6 m.f6.length d6) (.int .i64 m.f7) (.slice none 0 0) (.slice none 0 0) (.slice none 0 0)) ⟨fun hj => absurd hj (by decide), ?_⟩
      clear hK16 K16 y0 z0 y1 z1 y2 z2 y3 z3 y4 z4 y5 z5 y6 z6 y7 z7 y8 z8 y9 z9 y10 z10
      generalize put11 w8 g (.slice none 0 0) (.slice D1 m.f1.length d1) (.slice none 0 0) (.slice D3 m.f3.length d3) (.slice D4 m.f4.length d4) (.slice none 0 0) (.slice D6 m.f6.length d6) (.int .i64 m.f7) (.slice none 0 0) (.slice none 0 0) (.slice none 0 0) = wz at HM ⊢
      simp only [Act.put, List.setIfInBounds_toArray, List.set_cons_zero, List.set_cons_succ]
      refine wpAnyP_done (by kernel_rfl) ?_ _
      go_wp2_with fail
      go_meet
      case rel => exact ⟨g, _, _, _, _, rfl, HM⟩
  case rest =>
    obtain ⟨g, s1, s3, s4, s6, rfl, HM⟩ := hcut
    clear HB HX HZ HS C1 C3 C4 C6
    have xb : wc.cell? ⟨w.heap.size, 0, none⟩ = some (.slice A0 m.f0.length c0) := HM.out.box.cell 0
    go_upto_block 0 with (fail)
    clear xb
    go_cut [] from 4 to 148 (fun wd0 => ∃ v0 : Value, Aside0 (Mv w wd0 g #[.slice A0 m.f0.length c0, .slice A1 m.f1.length c1, .slice A2 m.f2.length c2, .slice A3 m.f3.length c3, .slice A4 m.f4.length c4, .slice A5 m.f5.length c5, .slice A6 m.f6.length c6, .int .i64 m.f7, .slice A8 m.f8.length c8, .slice A9 m.f9.length c9, .slice A10 m.f10.length c10] ⟨m.f0, m.f1, [], m.f3, m.f4, [], m.f6, m.f7, [], [], []⟩ v0 s1 (.slice none 0 0) s3 s4 (.slice none 0 0) s6 (.slice none 0 0) (.slice none 0 0) (.slice none 0 0)))
    case first =>
      go_wp2_with fail
      go_loopg [34] m.f0.length (fun q_ v_ w_ => ∃ (k : Int) (xs : List _) (v0 : Value), v_ = .int .i64 k ∧ Aside0 (0 ≤ k ∧ (q_ : Int) + k = m.f0.length) ∧ Aside0 (xs = m.f0.take k.toNat) ∧ Aside0 (Mv w w_ g #[.slice A0 m.f0.length c0, .slice A1 m.f1.length c1, .slice A2 m.f2.length c2, .slice A3 m.f3.length c3, .slice A4 m.f4.length c4, .slice A5 m.f5.length c5, .slice A6 m.f6.length c6, .int .i64 m.f7, .slice A8 m.f8.length c8, .slice A9 m.f9.length c9, .slice A10 m.f10.length c10] ⟨xs, m.f1, [], m.f3, m.f4, [], m.f6, m.f7, [], [], []⟩ v0 s1 (.slice none 0 0) s3 s4 (.slice none 0 0) s6 (.slice none 0 0) (.slice none 0 0) (.slice none 0 0)))
      case atStart => exact ⟨0, [], .slice none 0 0, rfl, ⟨⟨Int.le_refl _, by omega⟩⟩, ⟨rfl⟩, HM⟩
      case round =>
        clear HM
        obtain ⟨k, xs, v0, rfl, HK, HT, HM⟩ := hrel
        have hk0 := HK.out.1
        have hk1 := HK.out.2
        by_cases hlt : k < (m.f0.length : Int)
        · have d0 : decide (k < (m.f0.length : Int)) = true := decide_eq_true hlt
          have d1 : decide (0 ≤ k) = true := decide_eq_true hk0
          obtain ⟨ad, Y0, y0, Y1, y1, eA, q0, q1, lY0, gY0, lY1, gY1⟩ := at_T25 G0.out k hk0 hlt
          cases eA
          have hmem : rd_T25 m.f0 k ∈ m.f0 := getD_mem_ m.f0 _ k hk0 hlt
          have htk : m.f0.take k.toNat ++ [rd_T25 m.f0 k] = m.f0.take (k + 1).toNat := take_next m.f0 _ k hk0 hlt
          generalize rd_T25 m.f0 k = y at *
          replace q0 := (HM.out.low.cell (World.block_lt_of_cell? w _ q0)).trans q0
          replace q1 := (HM.out.low.cell (World.block_lt_of_cell? w _ q1)).trans q1
          have HlY0 := Aside0.mk lY0
          have HgY0 := Aside0.mk gY0
          have HlY1 := Aside0.mk lY1
          have HgY1 := Aside0.mk gY1
          have HMem := Aside0.mk hmem; have HTk := Aside0.mk htk; have HLt := Aside0.mk hlt
          have ew : IntKind.i64.wrap (k + 1) = k + 1 := by have := HBm.out.h0; rw [IntKind.wrap_i64]; omega
          clear hmem htk lY0 gY0 lY1 gY1
          obtain ⟨D_, d_, eD⟩ := Kd.R_slice HM.out.r0
          change _ = Value.slice D_ xs.length d_ at eD
          subst eD
          go_upto_region 5 with fail
          obtain ⟨p_, hp_⟩ : ∃ p_, p_ = wr.heap.size := ⟨_, rfl⟩
          obtain ⟨w3, hw3⟩ : ∃ w3, w3 = (wr.alloc (.cells #[.slice Y0 y.f0.length y0, .slice Y1 y.f1.length y1] 25)).drew := ⟨_, rfl⟩
          have hY3 : Row w3 p_ 25 #[.slice Y0 y.f0.length y0, .slice Y1 y.f1.length y1] := by rw [hw3, hp_]; exact St.Row.made wr 25 #[.slice Y0 y.f0.length y0, .slice Y1 y.f1.length y1] rfl
          have hM3 : Mv w w3 g #[.slice (some ad) m.f0.length c0, .slice A1 m.f1.length c1, .slice A2 m.f2.length c2, .slice A3 m.f3.length c3, .slice A4 m.f4.length c4, .slice A5 m.f5.length c5, .slice A6 m.f6.length c6, .int .i64 m.f7, .slice A8 m.f8.length c8, .slice A9 m.f9.length c9, .slice A10 m.f10.length c10] ⟨xs, m.f1, [], m.f3, m.f4, [], m.f6, m.f7, [], [], []⟩ (.slice D_ xs.length d_) s1 (.slice none 0 0) s3 s4 (.slice none 0 0) s6 (.slice none 0 0) (.slice none 0 0) (.slice none 0 0) := by rw [hw3]; exact (HM.out.step (below_alloc (Below.refl _ _) _)).drew
          have HNe := Aside0.mk (show (Value.slice D_ xs.length d_).ownBlock ≠ some p_ from fun e => by have := Kd.R_lt HM.out.r0 p_ e; omega)
          refine wp_region_heldP (fun j_ w' => ([3, 4].contains j_ = true → Row w' g 61 #[(.slice D_ xs.length d_), s1, (.slice none 0 0), s3, s4, (.slice none 0 0), s6, .int .i64 m.f7, (.slice none 0 0), (.slice none 0 0), (.slice none 0 0)]) ∧ (([3, 4].contains j_ || [1, 2, 5].contains j_) = true → Row w' p_ 25 #[.slice Y0 y.f0.length y0, .slice Y1 y.f1.length y1])) (by kernel_rfl) ?_
          rw [← hp_, ← hw3]
          clear hw3 hp_
          simp only [List.size_toArray, List.length_cons, List.length_nil, Nat.zero_add, Nat.reduceAdd, Array.replicate, List.replicate]
          have HM3 := Aside0.mk hM3; have HY3 := Aside0.mk hY3
          clear hM3 hY3 HM q0 q1
          refine wpAnyP_take' (fun _ => True) (fun _ => true) 0 (.pointer (some ⟨g, 0, none⟩)) rfl (by kernel_rfl) (by kernel_rfl) (by kernel_rfl) (fun _ _ _ h => h) (by kernel_rfl) (fun _ _ _ _ => trivial) (fun _ _ => ⟨fun hj => absurd hj (by decide), fun hj => absurd hj (by decide)⟩) (by rfl) (by intro wq _; go_simp) trivial ?_
          simp only [Act.put, List.setIfInBounds_toArray, List.set_cons_zero, List.set_cons_succ]
          refine wpAnyP_take' (fun w' => Row w' p_ 25 #[.slice Y0 y.f0.length y0, .slice Y1 y.f1.length y1]) (fun j_ => [3, 4].contains j_ || [1, 2, 5].contains j_) 2 (.agg #[.slice Y0 y.f0.length y0, .slice Y1 y.f1.length y1]) rfl (by kernel_rfl) (by kernel_rfl) (by kernel_rfl) (fun _ _ _ h => h) (by kernel_rfl) (fun j_ hj _ h => h.2 hj) (fun _ h => ⟨fun hj => absurd hj (by decide), fun _ => h⟩) (by rfl) (by intro wq hq; have c_0 : wq.cell? ⟨p_, 0, none⟩ = some (.slice Y0 y.f0.length y0) := hq.cell 0; have c_1 : wq.cell? ⟨p_, 1, none⟩ = some (.slice Y1 y.f1.length y1) := hq.cell 1; go_simp) HY3.out ?_
          simp only [Act.put, List.setIfInBounds_toArray, List.set_cons_zero, List.set_cons_succ]
          refine wpAnyP_take' (fun w' => Row w' g 61 #[(.slice D_ xs.length d_), s1, (.slice none 0 0), s3, s4, (.slice none 0 0), s6, .int .i64 m.f7, (.slice none 0 0), (.slice none 0 0), (.slice none 0 0)] ∧ Row w' p_ 25 #[.slice Y0 y.f0.length y0, .slice Y1 y.f1.length y1]) (fun j_ => [3, 4].contains j_) 1 (.slice D_ xs.length d_) rfl (by kernel_rfl) (by kernel_rfl) (by kernel_rfl) (fun _ _ _ h => h) (by kernel_rfl) (fun j_ hj _ h => ⟨h.1 hj, h.2 (show ([3, 4].contains j_ || [1, 2, 5].contains j_) = true by rw [show ([3, 4].contains j_) = true from hj]; rfl)⟩) (fun _ h => ⟨fun hj => absurd hj (by decide), fun _ => h.2⟩) (by rfl) (by intro wq hq; have c_ : wq.cell? ⟨g, 0, none⟩ = some (.slice D_ xs.length d_) := hq.1.cell 0; go_simp) ⟨HM3.out.row, HY3.out⟩ ?_
          simp only [Act.put, List.setIfInBounds_toArray, List.set_cons_zero, List.set_cons_succ]
          refine wpAnyP_one (i := 3) (by kernel_rfl) (wpOp_run (i := 3) rfl (fun K3 hK3 => ?_))
          go_simp
          refine (type_copy' y (HBm.out.t0 _ HMem.out).1 (HBm.out.t0 _ HMem.out).2 HlY0.out (Kd.C_below HgY0.out HM3.out.low) HlY1.out (Kd.C_below HgY1.out HM3.out.low)).mono ?_
          rintro e w4 ⟨E0, e0, E1, e1, rfl, hrt, hb_⟩
          refine hK3.out _ _ ⟨⟨fun _ => (HM3.out.step hb_).row, fun _ => HY3.out.below hb_ HY3.out.lt⟩, ?_⟩
          have HM4 := Aside0.mk (HM3.out.step hb_)
          have HY4 := Aside0.mk (HY3.out.below hb_ HY3.out.lt)
          have HS4 := Aside0.mk hb_.size
          clear hb_ hK3 K3  HY3
          simp only [Act.put, List.setIfInBounds_toArray, List.set_cons_zero, List.set_cons_succ]
          have hMy : k25.M w4 w.heap.size (fun k_ => some k_ ≠ (Value.slice D_ xs.length d_).ownBlock) y [.slice E0 y.f0.length e0, .slice E1 y.f1.length e1] := k25.M_mono (fun _ hk => hk.2) (k25.M_lower HM3.out.low.size (Kd.M_new hrt (Kd.R_own HM3.out.r0).choose_spec))
          have HMy := Aside0.mk hMy
          clear hMy hrt
          refine wpAnyP_one (i := 4) (by kernel_rfl) (wpOp_run (i := 4) rfl (fun K4 hK4 => ?_))
          go_simp
          refine hK4.out _ _ ⟨⟨fun _ => St.Row.alloc HM4.out.row _, fun _ => St.Row.alloc HY4.out _⟩, ?_⟩
          clear hK4 K4
          simp only [Act.put, List.setIfInBounds_toArray, List.set_cons_zero, List.set_cons_succ]
          refine wpAnyP_one (i := 5) (by kernel_rfl) (wpOp_run (i := 5) rfl (fun K5 hK5 => ?_))
          refine Kd.R_append_step (W := w4) (w0 := w) k25 w.heap.size (by rfl) (.tmp 39) (.tmp 42) 51 25 (.agg #[.slice none 0 0, .slice none 0 0]) 48 rfl Try.underlying51 (by kernel_rfl) rfl (by decide) (by decide) (.slice D_ xs.length d_) xs y [.slice E0 y.f0.length e0, .slice E1 y.f1.length e1] (fun _ => True) (fun k_ => some k_ ≠ (Value.slice D_ xs.length d_).ownBlock) rfl (by rfl) HMy.out (fun _ hk => ⟨trivial, hk⟩) (fun _ _ => trivial) HM4.out.r0 HM4.out.low HM4.out.low.size (by have e1 := HT.out; have e2 := HBm.out.h0; have e3 := HLt.out; have e4 := congrArg List.length e1; rw [List.length_take] at e4; omega) ?_
          rintro u_ w6 hR6 hB6 hg6 hat6
          obtain ⟨U_, e_, rfl⟩ := Kd.R_slice hR6
          rw [List.length_append, List.length_singleton] at hR6 ⊢
          refine hK5.out _ _ ⟨⟨fun hj => absurd hj (by decide), fun _ => HY4.out.grown hg6 HNe.out⟩, ?_⟩
          have HM6 := Aside0.mk (HM4.out.app0 hR6 hg6)
          have r6 := HM4.out.row.grown hg6 (fun e => Kd.R_ne HM4.out.r0 HM4.out.row (by decide) e.symm)
          have q6 : w6.cell? ⟨g, 0, none⟩ = some (.slice D_ xs.length d_) := r6.cell 0
          have z6 := r6.frozen 0
          clear hK5 K5 hR6 hB6 hg6 hat6 r6
          simp only [Act.put, List.setIfInBounds_toArray, List.set_cons_zero, List.set_cons_succ]
          refine wpAnyP_one (i := 6) (by kernel_rfl) (wpOp_run (i := 6) rfl (fun K6 hK6 => ?_))
          go_simp
          refine hK6.out _ _ ⟨⟨fun hj => absurd hj (by decide), fun hj => absurd hj (by decide)⟩, ?_⟩
          clear hK6 K6
          simp only [Act.put, List.setIfInBounds_toArray, List.set_cons_zero, List.set_cons_succ]
          refine wpAnyP_one (i := 7) (by kernel_rfl) (wpOp_run (i := 7) rfl (fun K7 hK7 => ?_))
          go_simp
          refine hK7.out _ _ ⟨⟨fun hj => absurd hj (by decide), fun hj => absurd hj (by decide)⟩, ?_⟩
          clear hK7 K7 q6 z6
          simp only [Act.put, List.setIfInBounds_toArray, List.set_cons_zero, List.set_cons_succ]
          refine wpAnyP_done (by kernel_rfl) ?_ _
          go_wp2_with fail
          go_roundg (m.f0.length - (k + 1).toNat)
          case measure => omega
          case rel => exact ⟨k + 1, xs ++ [y], _, by first | rfl | (simp; done) | (simp [*]; done), ⟨⟨by omega, by omega⟩⟩, ⟨by rw [HT.out]; exact HTk.out⟩, HM6⟩
        · have d0 : decide (k < (m.f0.length : Int)) = false := decide_eq_false hlt
          go_wp2_with fail
          go_meet
          case rel =>
            have e1 : xs = m.f0 := by rw [HT.out, List.take_of_length_le (by omega)]
            subst e1
            exact ⟨v0, HM⟩
    case rest =>
      clear HM
      obtain ⟨v0, HM⟩ := hcut
      have xb : wc.cell? ⟨w.heap.size, 2, none⟩ = some (.slice A2 m.f2.length c2) := HM.out.box.cell 2
      go_upto_block 2 with (fail)
      clear xb
      go_cut [] from 4 to 148 (fun wd2 => ∃ v2 : Value, Aside0 (Mv w wd2 g #[.slice A0 m.f0.length c0, .slice A1 m.f1.length c1, .slice A2 m.f2.length c2, .slice A3 m.f3.length c3, .slice A4 m.f4.length c4, .slice A5 m.f5.length c5, .slice A6 m.f6.length c6, .int .i64 m.f7, .slice A8 m.f8.length c8, .slice A9 m.f9.length c9, .slice A10 m.f10.length c10] ⟨m.f0, m.f1, m.f2, m.f3, m.f4, [], m.f6, m.f7, [], [], []⟩ v0 s1 v2 s3 s4 (.slice none 0 0) s6 (.slice none 0 0) (.slice none 0 0) (.slice none 0 0)))
      case first =>
        go_wp2_with fail
        go_loopg [49] m.f2.length (fun q_ v_ w_ => ∃ (k : Int) (xs : List _) (v2 : Value), v_ = .int .i64 k ∧ Aside0 (0 ≤ k ∧ (q_ : Int) + k = m.f2.length) ∧ Aside0 (xs = m.f2.take k.toNat) ∧ Aside0 (Mv w w_ g #[.slice A0 m.f0.length c0, .slice A1 m.f1.length c1, .slice A2 m.f2.length c2, .slice A3 m.f3.length c3, .slice A4 m.f4.length c4, .slice A5 m.f5.length c5, .slice A6 m.f6.length c6, .int .i64 m.f7, .slice A8 m.f8.length c8, .slice A9 m.f9.length c9, .slice A10 m.f10.length c10] ⟨m.f0, m.f1, xs, m.f3, m.f4, [], m.f6, m.f7, [], [], []⟩ v0 s1 v2 s3 s4 (.slice none 0 0) s6 (.slice none 0 0) (.slice none 0 0) (.slice none 0 0)))
        case atStart => exact ⟨0, [], .slice none 0 0, rfl, ⟨⟨Int.le_refl _, by omega⟩⟩, ⟨rfl⟩, HM⟩
        case round =>
          clear HM
          obtain ⟨k, xs, v2, rfl, HK, HT, HM⟩ := hrel
          have hk0 := HK.out.1
          have hk1 := HK.out.2
          by_cases hlt : k < (m.f2.length : Int)
          · have d0 : decide (k < (m.f2.length : Int)) = true := decide_eq_true hlt
            have d1 : decide (0 ≤ k) = true := decide_eq_true hk0
            obtain ⟨ad, Y1, y1, Y2, y2, eA, q0, q1, q2, lY1, gY1, lY2, gY2⟩ := at_T101 G2.out k hk0 hlt
            cases eA
            have hmem : rd_T101 m.f2 k ∈ m.f2 := getD_mem_ m.f2 _ k hk0 hlt
            have htk : m.f2.take k.toNat ++ [rd_T101 m.f2 k] = m.f2.take (k + 1).toNat := take_next m.f2 _ k hk0 hlt
            generalize rd_T101 m.f2 k = y at *
            replace q0 := (HM.out.low.cell (World.block_lt_of_cell? w _ q0)).trans q0
            replace q1 := (HM.out.low.cell (World.block_lt_of_cell? w _ q1)).trans q1
            replace q2 := (HM.out.low.cell (World.block_lt_of_cell? w _ q2)).trans q2
            have HlY1 := Aside0.mk lY1
            have HgY1 := Aside0.mk gY1
            have HlY2 := Aside0.mk lY2
            have HgY2 := Aside0.mk gY2
            have HMem := Aside0.mk hmem; have HTk := Aside0.mk htk; have HLt := Aside0.mk hlt
            have ew : IntKind.i64.wrap (k + 1) = k + 1 := by have := HBm.out.h2; rw [IntKind.wrap_i64]; omega
            clear hmem htk lY1 gY1 lY2 gY2
            obtain ⟨D_, d_, eD⟩ := Kd.R_slice HM.out.r2
            change _ = Value.slice D_ xs.length d_ at eD
            subst eD
            go_upto_region 10 with fail
            obtain ⟨p_, hp_⟩ : ∃ p_, p_ = wr.heap.size := ⟨_, rfl⟩
            obtain ⟨w3, hw3⟩ : ∃ w3, w3 = (wr.alloc (.cells #[.int .i64 y.f0, .slice Y1 y.f1.length y1, .slice Y2 y.f2.length y2] 101)).drew := ⟨_, rfl⟩
            have hY3 : Row w3 p_ 101 #[.int .i64 y.f0, .slice Y1 y.f1.length y1, .slice Y2 y.f2.length y2] := by rw [hw3, hp_]; exact St.Row.made wr 101 #[.int .i64 y.f0, .slice Y1 y.f1.length y1, .slice Y2 y.f2.length y2] rfl
            have hM3 : Mv w w3 g #[.slice A0 m.f0.length c0, .slice A1 m.f1.length c1, .slice (some ad) m.f2.length c2, .slice A3 m.f3.length c3, .slice A4 m.f4.length c4, .slice A5 m.f5.length c5, .slice A6 m.f6.length c6, .int .i64 m.f7, .slice A8 m.f8.length c8, .slice A9 m.f9.length c9, .slice A10 m.f10.length c10] ⟨m.f0, m.f1, xs, m.f3, m.f4, [], m.f6, m.f7, [], [], []⟩ v0 s1 (.slice D_ xs.length d_) s3 s4 (.slice none 0 0) s6 (.slice none 0 0) (.slice none 0 0) (.slice none 0 0) := by rw [hw3]; exact (HM.out.step (below_alloc (Below.refl _ _) _)).drew
            have HNe := Aside0.mk (show (Value.slice D_ xs.length d_).ownBlock ≠ some p_ from fun e => by have := Kd.R_lt HM.out.r2 p_ e; omega)
            refine wp_region_heldP (fun j_ w' => ([6, 9, 10, 11].contains j_ = true → Row w' g 61 #[v0, s1, (.slice D_ xs.length d_), s3, s4, (.slice none 0 0), s6, .int .i64 m.f7, (.slice none 0 0), (.slice none 0 0), (.slice none 0 0)]) ∧ (([6, 9, 10, 11].contains j_ || [1, 3, 5, 8, 12].contains j_) = true → Row w' p_ 101 #[.int .i64 y.f0, .slice Y1 y.f1.length y1, .slice Y2 y.f2.length y2])) (by kernel_rfl) ?_
            rw [← hp_, ← hw3]
            clear hw3 hp_
            simp only [List.size_toArray, List.length_cons, List.length_nil, Nat.zero_add, Nat.reduceAdd, Array.replicate, List.replicate]
            have HM3 := Aside0.mk hM3; have HY3 := Aside0.mk hY3
            clear hM3 hY3 HM q0 q1 q2
            refine wpAnyP_take' (fun _ => True) (fun _ => true) 0 (.pointer (some ⟨g, 2, none⟩)) rfl (by kernel_rfl) (by kernel_rfl) (by kernel_rfl) (fun _ _ _ h => h) (by kernel_rfl) (fun _ _ _ _ => trivial) (fun _ _ => ⟨fun hj => absurd hj (by decide), fun hj => absurd hj (by decide)⟩) (by rfl) (by intro wq _; go_simp) trivial ?_
            simp only [Act.put, List.setIfInBounds_toArray, List.set_cons_zero, List.set_cons_succ]
            refine wpAnyP_take' (fun _ => True) (fun _ => true) 2 (.pointer (some ⟨p_, 0, none⟩)) rfl (by kernel_rfl) (by kernel_rfl) (by kernel_rfl) (fun _ _ _ h => h) (by kernel_rfl) (fun _ _ _ _ => trivial) (fun _ _ => ⟨fun hj => absurd hj (by decide), fun hj => absurd hj (by decide)⟩) (by rfl) (by intro wq _; go_simp) trivial ?_
            simp only [Act.put, List.setIfInBounds_toArray, List.set_cons_zero, List.set_cons_succ]
            refine wpAnyP_take' (fun _ => True) (fun _ => true) 4 (.pointer (some ⟨p_, 1, none⟩)) rfl (by kernel_rfl) (by kernel_rfl) (by kernel_rfl) (fun _ _ _ h => h) (by kernel_rfl) (fun _ _ _ _ => trivial) (fun _ _ => ⟨fun hj => absurd hj (by decide), fun hj => absurd hj (by decide)⟩) (by rfl) (by intro wq _; go_simp) trivial ?_
            simp only [Act.put, List.setIfInBounds_toArray, List.set_cons_zero, List.set_cons_succ]
            refine wpAnyP_take' (fun _ => True) (fun _ => true) 7 (.pointer (some ⟨p_, 2, none⟩)) rfl (by kernel_rfl) (by kernel_rfl) (by kernel_rfl) (fun _ _ _ h => h) (by kernel_rfl) (fun _ _ _ _ => trivial) (fun _ _ => ⟨fun hj => absurd hj (by decide), fun hj => absurd hj (by decide)⟩) (by rfl) (by intro wq _; go_simp) trivial ?_
            simp only [Act.put, List.setIfInBounds_toArray, List.set_cons_zero, List.set_cons_succ]
            refine wpAnyP_take' (fun w' => Row w' p_ 101 #[.int .i64 y.f0, .slice Y1 y.f1.length y1, .slice Y2 y.f2.length y2]) (fun j_ => [6, 9, 10, 11].contains j_ || [1, 3, 5, 8, 12].contains j_) 3 (.int .i64 y.f0) rfl (by kernel_rfl) (by kernel_rfl) (by kernel_rfl) (fun _ _ _ h => h) (by kernel_rfl) (fun j_ hj _ h => h.2 hj) (fun _ h => ⟨fun hj => absurd hj (by decide), fun _ => h⟩) (by rfl) (by intro wq hq; have c_0 : wq.cell? ⟨p_, 0, none⟩ = some (.int .i64 y.f0) := hq.cell 0; go_simp) HY3.out ?_
            simp only [Act.put, List.setIfInBounds_toArray, List.set_cons_zero, List.set_cons_succ]
            refine wpAnyP_take' (fun w' => Row w' p_ 101 #[.int .i64 y.f0, .slice Y1 y.f1.length y1, .slice Y2 y.f2.length y2]) (fun j_ => [6, 9, 10, 11].contains j_ || [1, 3, 5, 8, 12].contains j_) 5 (.slice Y1 y.f1.length y1) rfl (by kernel_rfl) (by kernel_rfl) (by kernel_rfl) (fun _ _ _ h => h) (by kernel_rfl) (fun j_ hj _ h => h.2 hj) (fun _ h => ⟨fun hj => absurd hj (by decide), fun _ => h⟩) (by rfl) (by intro wq hq; have c_1 : wq.cell? ⟨p_, 1, none⟩ = some (.slice Y1 y.f1.length y1) := hq.cell 1; go_simp) HY3.out ?_
            simp only [Act.put, List.setIfInBounds_toArray, List.set_cons_zero, List.set_cons_succ]
            refine wpAnyP_take' (fun w' => Row w' p_ 101 #[.int .i64 y.f0, .slice Y1 y.f1.length y1, .slice Y2 y.f2.length y2]) (fun j_ => [6, 9, 10, 11].contains j_ || [1, 3, 5, 8, 12].contains j_) 8 (.slice Y2 y.f2.length y2) rfl (by kernel_rfl) (by kernel_rfl) (by kernel_rfl) (fun _ _ _ h => h) (by kernel_rfl) (fun j_ hj _ h => h.2 hj) (fun _ h => ⟨fun hj => absurd hj (by decide), fun _ => h⟩) (by rfl) (by intro wq hq; have c_2 : wq.cell? ⟨p_, 2, none⟩ = some (.slice Y2 y.f2.length y2) := hq.cell 2; go_simp) HY3.out ?_
            simp only [Act.put, List.setIfInBounds_toArray, List.set_cons_zero, List.set_cons_succ]
            refine wpAnyP_take' (fun w' => Row w' g 61 #[v0, s1, (.slice D_ xs.length d_), s3, s4, (.slice none 0 0), s6, .int .i64 m.f7, (.slice none 0 0), (.slice none 0 0), (.slice none 0 0)] ∧ Row w' p_ 101 #[.int .i64 y.f0, .slice Y1 y.f1.length y1, .slice Y2 y.f2.length y2]) (fun j_ => [6, 9, 10, 11].contains j_) 1 (.slice D_ xs.length d_) rfl (by kernel_rfl) (by kernel_rfl) (by kernel_rfl) (fun _ _ _ h => h) (by kernel_rfl) (fun j_ hj _ h => ⟨h.1 hj, h.2 (show ([6, 9, 10, 11].contains j_ || [1, 3, 5, 8, 12].contains j_) = true by rw [show ([6, 9, 10, 11].contains j_) = true from hj]; rfl)⟩) (fun _ h => ⟨fun hj => absurd hj (by decide), fun _ => h.2⟩) (by rfl) (by intro wq hq; have c_ : wq.cell? ⟨g, 2, none⟩ = some (.slice D_ xs.length d_) := hq.1.cell 2; go_simp) ⟨HM3.out.row, HY3.out⟩ ?_
            simp only [Act.put, List.setIfInBounds_toArray, List.set_cons_zero, List.set_cons_succ]
            refine wpAnyP_one (i := 6) (by kernel_rfl) (wpOp_run (i := 6) rfl (fun K6 hK6 => ?_))
            go_simp
            refine (ints_copy' y.f1 (HBm.out.t2 _ HMem.out).1 HlY1.out (Kd.C_below HgY1.out HM3.out.low)).mono ?_
            rintro e w4 ⟨Ei, ei, rfl, hri, hb_⟩
            refine hK6.out _ _ ⟨⟨fun _ => (HM3.out.step hb_).row, fun _ => HY3.out.below hb_ HY3.out.lt⟩, ?_⟩
            have HM4 := Aside0.mk (HM3.out.step hb_)
            have HY4 := Aside0.mk (HY3.out.below hb_ HY3.out.lt)
            have HS4 := Aside0.mk hb_.size
            clear hb_ hK6 K6  HY3
            simp only [Act.put, List.setIfInBounds_toArray, List.set_cons_zero, List.set_cons_succ]
            refine wpAnyP_one (i := 9) (by kernel_rfl) (wpOp_run (i := 9) rfl (fun K9 hK9 => ?_))
            go_simp
            refine (code_copy' y.f2 (HBm.out.t2 _ HMem.out).2 HlY2.out (Kd.C_below HgY2.out HM4.out.low)).mono ?_
            rintro e w5 ⟨Ec, ec, rfl, hrc, hb_⟩
            refine hK9.out _ _ ⟨⟨fun _ => (HM4.out.step hb_).row, fun _ => HY4.out.below hb_ HY4.out.lt⟩, ?_⟩
            have HM5 := Aside0.mk (HM4.out.step hb_)
            have HY5 := Aside0.mk (HY4.out.below hb_ HY4.out.lt)
            have HS5 := Aside0.mk hb_.size
            replace hri := Kd.R_below hri hb_
            replace hrc := Kd.R_lower hrc HS4.out
            clear hb_ hK9 K9 HM4 HY4
            simp only [Act.put, List.setIfInBounds_toArray, List.set_cons_zero, List.set_cons_succ]
            have hMy : k101.M w5 w.heap.size (fun k_ => some k_ ≠ (Value.slice D_ xs.length d_).ownBlock) y [.int .i64 y.f0, .slice Ei y.f1.length ei, .slice Ec y.f2.length ec] := k101.M_mono (fun _ hk => hk.2) (k101.M_lower HM3.out.low.size (Kd.M_new (k101_mkM _ _ _ y hri hrc) (Kd.R_own HM3.out.r2).choose_spec))
            have HMy := Aside0.mk hMy
            clear hMy hri hrc
            refine wpAnyP_one (i := 10) (by kernel_rfl) (wpOp_run (i := 10) rfl (fun K10 hK10 => ?_))
            go_simp
            refine hK10.out _ _ ⟨⟨fun _ => HM5.out.row, fun _ => HY5.out⟩, ?_⟩
            clear hK10 K10
            simp only [Act.put, List.setIfInBounds_toArray, List.set_cons_zero, List.set_cons_succ]
            refine wpAnyP_one (i := 11) (by kernel_rfl) (wpOp_run (i := 11) rfl (fun K11 hK11 => ?_))
            go_simp
            refine hK11.out _ _ ⟨⟨fun _ => St.Row.alloc HM5.out.row _, fun _ => St.Row.alloc HY5.out _⟩, ?_⟩
            clear hK11 K11
            simp only [Act.put, List.setIfInBounds_toArray, List.set_cons_zero, List.set_cons_succ]
            refine wpAnyP_one (i := 12) (by kernel_rfl) (wpOp_run (i := 12) rfl (fun K12 hK12 => ?_))
            refine Kd.R_append_step (W := w5) (w0 := w) k101 w.heap.size (by rfl) (.tmp 54) (.tmp 64) 53 101 (.agg #[.int .i64 0, .slice none 0 0, .slice none 0 0]) 56 rfl Try.underlying53 (by kernel_rfl) rfl (by decide) (by decide) (.slice D_ xs.length d_) xs y [.int .i64 y.f0, .slice Ei y.f1.length ei, .slice Ec y.f2.length ec] (fun _ => True) (fun k_ => some k_ ≠ (Value.slice D_ xs.length d_).ownBlock) rfl (by rfl) HMy.out (fun _ hk => ⟨trivial, hk⟩) (fun _ _ => trivial) HM5.out.r2 HM5.out.low HM5.out.low.size (by have e1 := HT.out; have e2 := HBm.out.h2; have e3 := HLt.out; have e4 := congrArg List.length e1; rw [List.length_take] at e4; omega) ?_
            rintro u_ w6 hR6 hB6 hg6 hat6
            obtain ⟨U_, e_, rfl⟩ := Kd.R_slice hR6
            rw [List.length_append, List.length_singleton] at hR6 ⊢
            refine hK12.out _ _ ⟨⟨fun hj => absurd hj (by decide), fun _ => HY5.out.grown hg6 HNe.out⟩, ?_⟩
            have HM6 := Aside0.mk (HM5.out.app2 hR6 hg6)
            have r6 := HM5.out.row.grown hg6 (fun e => Kd.R_ne HM5.out.r2 HM5.out.row (by decide) e.symm)
            have q6 : w6.cell? ⟨g, 2, none⟩ = some (.slice D_ xs.length d_) := r6.cell 2
            have z6 := r6.frozen 2
            clear hK12 K12 hR6 hB6 hg6 hat6 r6
            simp only [Act.put, List.setIfInBounds_toArray, List.set_cons_zero, List.set_cons_succ]
            refine wpAnyP_one (i := 13) (by kernel_rfl) (wpOp_run (i := 13) rfl (fun K13 hK13 => ?_))
            go_simp
            refine hK13.out _ _ ⟨⟨fun hj => absurd hj (by decide), fun hj => absurd hj (by decide)⟩, ?_⟩
            clear hK13 K13
            simp only [Act.put, List.setIfInBounds_toArray, List.set_cons_zero, List.set_cons_succ]
            refine wpAnyP_one (i := 14) (by kernel_rfl) (wpOp_run (i := 14) rfl (fun K14 hK14 => ?_))
            go_simp
            refine hK14.out _ _ ⟨⟨fun hj => absurd hj (by decide), fun hj => absurd hj (by decide)⟩, ?_⟩
            clear hK14 K14 q6 z6
            simp only [Act.put, List.setIfInBounds_toArray, List.set_cons_zero, List.set_cons_succ]
            refine wpAnyP_done (by kernel_rfl) ?_ _
            go_wp2_with fail
            go_roundg (m.f2.length - (k + 1).toNat)
            case measure => omega
            case rel => exact ⟨k + 1, xs ++ [y], _, by first | rfl | (simp; done) | (simp [*]; done), ⟨⟨by omega, by omega⟩⟩, ⟨by rw [HT.out]; exact HTk.out⟩, HM6⟩
          · have d0 : decide (k < (m.f2.length : Int)) = false := decide_eq_false hlt
            go_wp2_with fail
            go_meet
            case rel =>
              have e1 : xs = m.f2 := by rw [HT.out, List.take_of_length_le (by omega)]
              subst e1
              exact ⟨v2, HM⟩
      case rest =>
        clear HM
        obtain ⟨v2, HM⟩ := hcut
        have xb : wc.cell? ⟨w.heap.size, 5, none⟩ = some (.slice A5 m.f5.length c5) := HM.out.box.cell 5
        go_upto_block 4 with (fail)
        clear xb
        go_cut [] from 4 to 148 (fun wd5 => ∃ v5 : Value, Aside0 (Mv w wd5 g #[.slice A0 m.f0.length c0, .slice A1 m.f1.length c1, .slice A2 m.f2.length c2, .slice A3 m.f3.length c3, .slice A4 m.f4.length c4, .slice A5 m.f5.length c5, .slice A6 m.f6.length c6, .int .i64 m.f7, .slice A8 m.f8.length c8, .slice A9 m.f9.length c9, .slice A10 m.f10.length c10] ⟨m.f0, m.f1, m.f2, m.f3, m.f4, m.f5, m.f6, m.f7, [], [], []⟩ v0 s1 v2 s3 s4 v5 s6 (.slice none 0 0) (.slice none 0 0) (.slice none 0 0)))
        case first =>
          go_wp2_with fail
          go_loopg [71] m.f5.length (fun q_ v_ w_ => ∃ (k : Int) (xs : List _) (v5 : Value), v_ = .int .i64 k ∧ Aside0 (0 ≤ k ∧ (q_ : Int) + k = m.f5.length) ∧ Aside0 (xs = m.f5.take k.toNat) ∧ Aside0 (Mv w w_ g #[.slice A0 m.f0.length c0, .slice A1 m.f1.length c1, .slice A2 m.f2.length c2, .slice A3 m.f3.length c3, .slice A4 m.f4.length c4, .slice A5 m.f5.length c5, .slice A6 m.f6.length c6, .int .i64 m.f7, .slice A8 m.f8.length c8, .slice A9 m.f9.length c9, .slice A10 m.f10.length c10] ⟨m.f0, m.f1, m.f2, m.f3, m.f4, xs, m.f6, m.f7, [], [], []⟩ v0 s1 v2 s3 s4 v5 s6 (.slice none 0 0) (.slice none 0 0) (.slice none 0 0)))
          case atStart => exact ⟨0, [], .slice none 0 0, rfl, ⟨⟨Int.le_refl _, by omega⟩⟩, ⟨rfl⟩, HM⟩
          case round =>
            clear HM
            obtain ⟨k, xs, v5, rfl, HK, HT, HM⟩ := hrel
            have hk0 := HK.out.1
            have hk1 := HK.out.2
            by_cases hlt : k < (m.f5.length : Int)
            · have d0 : decide (k < (m.f5.length : Int)) = true := decide_eq_true hlt
              have d1 : decide (0 ≤ k) = true := decide_eq_true hk0
              obtain ⟨ad, Y5, y5, Y6, y6, Y7, y7, eA, q0, q1, q2, q3, q4, q5, q6, q7, q8, q9, q10, lY5, gY5, lY6, gY6, lY7, gY7⟩ := at_T106 G5.out k hk0 hlt
              cases eA
              have hmem : rd_T106 m.f5 k ∈ m.f5 := getD_mem_ m.f5 _ k hk0 hlt
              have htk : m.f5.take k.toNat ++ [rd_T106 m.f5 k] = m.f5.take (k + 1).toNat := take_next m.f5 _ k hk0 hlt
              generalize rd_T106 m.f5 k = y at *
              replace q0 := (HM.out.low.cell (World.block_lt_of_cell? w _ q0)).trans q0
              replace q1 := (HM.out.low.cell (World.block_lt_of_cell? w _ q1)).trans q1
              replace q2 := (HM.out.low.cell (World.block_lt_of_cell? w _ q2)).trans q2
              replace q3 := (HM.out.low.cell (World.block_lt_of_cell? w _ q3)).trans q3
              replace q4 := (HM.out.low.cell (World.block_lt_of_cell? w _ q4)).trans q4
              replace q5 := (HM.out.low.cell (World.block_lt_of_cell? w _ q5)).trans q5
              replace q6 := (HM.out.low.cell (World.block_lt_of_cell? w _ q6)).trans q6
              replace q7 := (HM.out.low.cell (World.block_lt_of_cell? w _ q7)).trans q7
              replace q8 := (HM.out.low.cell (World.block_lt_of_cell? w _ q8)).trans q8
              replace q9 := (HM.out.low.cell (World.block_lt_of_cell? w _ q9)).trans q9
              replace q10 := (HM.out.low.cell (World.block_lt_of_cell? w _ q10)).trans q10
              have HlY5 := Aside0.mk lY5
              have HgY5 := Aside0.mk gY5
              have HlY6 := Aside0.mk lY6
              have HgY6 := Aside0.mk gY6
              have HlY7 := Aside0.mk lY7
              have HgY7 := Aside0.mk gY7
              have HMem := Aside0.mk hmem; have HTk := Aside0.mk htk; have HLt := Aside0.mk hlt
              have ew : IntKind.i64.wrap (k + 1) = k + 1 := by have := HBm.out.h5; rw [IntKind.wrap_i64]; omega
              clear hmem htk lY5 gY5 lY6 gY6 lY7 gY7
              obtain ⟨D_, d_, eD⟩ := Kd.R_slice HM.out.r5
              change _ = Value.slice D_ xs.length d_ at eD
              subst eD
              go_upto_region 15 with fail
              obtain ⟨p_, hp_⟩ : ∃ p_, p_ = wr.heap.size := ⟨_, rfl⟩
              obtain ⟨w3, hw3⟩ : ∃ w3, w3 = (wr.alloc (.cells #[.int .i64 y.f0, .bool y.f1, .int .i64 y.f2.f0, .int .i64 y.f2.f1, .int .i64 y.f2.f2, .int .u64 y.f2.f3, .int .i64 y.f2.f4, .slice Y5 y.f2.f5.length y5, .slice Y6 y.f2.f6.length y6, .slice Y7 y.f2.f7.length y7, .bool y.f2.f8] 106)).drew := ⟨_, rfl⟩
              have hY3 : Row w3 p_ 106 #[.int .i64 y.f0, .bool y.f1, .int .i64 y.f2.f0, .int .i64 y.f2.f1, .int .i64 y.f2.f2, .int .u64 y.f2.f3, .int .i64 y.f2.f4, .slice Y5 y.f2.f5.length y5, .slice Y6 y.f2.f6.length y6, .slice Y7 y.f2.f7.length y7, .bool y.f2.f8] := by rw [hw3, hp_]; exact St.Row.made wr 106 #[.int .i64 y.f0, .bool y.f1, .int .i64 y.f2.f0, .int .i64 y.f2.f1, .int .i64 y.f2.f2, .int .u64 y.f2.f3, .int .i64 y.f2.f4, .slice Y5 y.f2.f5.length y5, .slice Y6 y.f2.f6.length y6, .slice Y7 y.f2.f7.length y7, .bool y.f2.f8] rfl
              have hM3 : Mv w w3 g #[.slice A0 m.f0.length c0, .slice A1 m.f1.length c1, .slice A2 m.f2.length c2, .slice A3 m.f3.length c3, .slice A4 m.f4.length c4, .slice (some ad) m.f5.length c5, .slice A6 m.f6.length c6, .int .i64 m.f7, .slice A8 m.f8.length c8, .slice A9 m.f9.length c9, .slice A10 m.f10.length c10] ⟨m.f0, m.f1, m.f2, m.f3, m.f4, xs, m.f6, m.f7, [], [], []⟩ v0 s1 v2 s3 s4 (.slice D_ xs.length d_) s6 (.slice none 0 0) (.slice none 0 0) (.slice none 0 0) := by rw [hw3]; exact (HM.out.step (below_alloc (Below.refl _ _) _)).drew
              have HNe := Aside0.mk (show (Value.slice D_ xs.length d_).ownBlock ≠ some p_ from fun e => by have := Kd.R_lt HM.out.r5 p_ e; omega)
              refine wp_region_heldP (fun j_ w' => ([8, 9, 10].contains j_ = true → Row w' g 61 #[v0, s1, v2, s3, s4, (.slice D_ xs.length d_), s6, .int .i64 m.f7, (.slice none 0 0), (.slice none 0 0), (.slice none 0 0)]) ∧ (([8, 9, 10].contains j_ || [1, 3, 5, 7, 11].contains j_) = true → Row w' p_ 106 #[.int .i64 y.f0, .bool y.f1, .int .i64 y.f2.f0, .int .i64 y.f2.f1, .int .i64 y.f2.f2, .int .u64 y.f2.f3, .int .i64 y.f2.f4, .slice Y5 y.f2.f5.length y5, .slice Y6 y.f2.f6.length y6, .slice Y7 y.f2.f7.length y7, .bool y.f2.f8])) (by kernel_rfl) ?_
              rw [← hp_, ← hw3]
              clear hw3 hp_
              simp only [List.size_toArray, List.length_cons, List.length_nil, Nat.zero_add, Nat.reduceAdd, Array.replicate, List.replicate]
              have HM3 := Aside0.mk hM3; have HY3 := Aside0.mk hY3
              clear hM3 hY3 HM q0 q1 q2 q3 q4 q5 q6 q7 q8 q9 q10
              refine wpAnyP_take' (fun _ => True) (fun _ => true) 0 (.pointer (some ⟨g, 5, none⟩)) rfl (by kernel_rfl) (by kernel_rfl) (by kernel_rfl) (fun _ _ _ h => h) (by kernel_rfl) (fun _ _ _ _ => trivial) (fun _ _ => ⟨fun hj => absurd hj (by decide), fun hj => absurd hj (by decide)⟩) (by rfl) (by intro wq _; go_simp) trivial ?_
              simp only [Act.put, List.setIfInBounds_toArray, List.set_cons_zero, List.set_cons_succ]
              refine wpAnyP_take' (fun _ => True) (fun _ => true) 2 (.pointer (some ⟨p_, 0, none⟩)) rfl (by kernel_rfl) (by kernel_rfl) (by kernel_rfl) (fun _ _ _ h => h) (by kernel_rfl) (fun _ _ _ _ => trivial) (fun _ _ => ⟨fun hj => absurd hj (by decide), fun hj => absurd hj (by decide)⟩) (by rfl) (by intro wq _; go_simp) trivial ?_
              simp only [Act.put, List.setIfInBounds_toArray, List.set_cons_zero, List.set_cons_succ]
              refine wpAnyP_take' (fun _ => True) (fun _ => true) 4 (.pointer (some ⟨p_, 1, none⟩)) rfl (by kernel_rfl) (by kernel_rfl) (by kernel_rfl) (fun _ _ _ h => h) (by kernel_rfl) (fun _ _ _ _ => trivial) (fun _ _ => ⟨fun hj => absurd hj (by decide), fun hj => absurd hj (by decide)⟩) (by rfl) (by intro wq _; go_simp) trivial ?_
              simp only [Act.put, List.setIfInBounds_toArray, List.set_cons_zero, List.set_cons_succ]
              refine wpAnyP_take' (fun _ => True) (fun _ => true) 6 (.pointer (some ⟨p_, 2, none⟩)) rfl (by kernel_rfl) (by kernel_rfl) (by kernel_rfl) (fun _ _ _ h => h) (by kernel_rfl) (fun _ _ _ _ => trivial) (fun _ _ => ⟨fun hj => absurd hj (by decide), fun hj => absurd hj (by decide)⟩) (by rfl) (by intro wq _; go_simp) trivial ?_
              simp only [Act.put, List.setIfInBounds_toArray, List.set_cons_zero, List.set_cons_succ]
              refine wpAnyP_take' (fun w' => Row w' p_ 106 #[.int .i64 y.f0, .bool y.f1, .int .i64 y.f2.f0, .int .i64 y.f2.f1, .int .i64 y.f2.f2, .int .u64 y.f2.f3, .int .i64 y.f2.f4, .slice Y5 y.f2.f5.length y5, .slice Y6 y.f2.f6.length y6, .slice Y7 y.f2.f7.length y7, .bool y.f2.f8]) (fun j_ => [8, 9, 10].contains j_ || [1, 3, 5, 7, 11].contains j_) 3 (.int .i64 y.f0) rfl (by kernel_rfl) (by kernel_rfl) (by kernel_rfl) (fun _ _ _ h => h) (by kernel_rfl) (fun j_ hj _ h => h.2 hj) (fun _ h => ⟨fun hj => absurd hj (by decide), fun _ => h⟩) (by rfl) (by intro wq hq; have c_0 : wq.cell? ⟨p_, 0, none⟩ = some (.int .i64 y.f0) := hq.cell 0; go_simp) HY3.out ?_
              simp only [Act.put, List.setIfInBounds_toArray, List.set_cons_zero, List.set_cons_succ]
              refine wpAnyP_take' (fun w' => Row w' p_ 106 #[.int .i64 y.f0, .bool y.f1, .int .i64 y.f2.f0, .int .i64 y.f2.f1, .int .i64 y.f2.f2, .int .u64 y.f2.f3, .int .i64 y.f2.f4, .slice Y5 y.f2.f5.length y5, .slice Y6 y.f2.f6.length y6, .slice Y7 y.f2.f7.length y7, .bool y.f2.f8]) (fun j_ => [8, 9, 10].contains j_ || [1, 3, 5, 7, 11].contains j_) 5 (.bool y.f1) rfl (by kernel_rfl) (by kernel_rfl) (by kernel_rfl) (fun _ _ _ h => h) (by kernel_rfl) (fun j_ hj _ h => h.2 hj) (fun _ h => ⟨fun hj => absurd hj (by decide), fun _ => h⟩) (by rfl) (by intro wq hq; have c_1 : wq.cell? ⟨p_, 1, none⟩ = some (.bool y.f1) := hq.cell 1; go_simp) HY3.out ?_
              simp only [Act.put, List.setIfInBounds_toArray, List.set_cons_zero, List.set_cons_succ]
              refine wpAnyP_take' (fun w' => Row w' p_ 106 #[.int .i64 y.f0, .bool y.f1, .int .i64 y.f2.f0, .int .i64 y.f2.f1, .int .i64 y.f2.f2, .int .u64 y.f2.f3, .int .i64 y.f2.f4, .slice Y5 y.f2.f5.length y5, .slice Y6 y.f2.f6.length y6, .slice Y7 y.f2.f7.length y7, .bool y.f2.f8]) (fun j_ => [8, 9, 10].contains j_ || [1, 3, 5, 7, 11].contains j_) 7 (.agg #[.int .i64 y.f2.f0, .int .i64 y.f2.f1, .int .i64 y.f2.f2, .int .u64 y.f2.f3, .int .i64 y.f2.f4, .slice Y5 y.f2.f5.length y5, .slice Y6 y.f2.f6.length y6, .slice Y7 y.f2.f7.length y7, .bool y.f2.f8]) rfl (by kernel_rfl) (by kernel_rfl) (by kernel_rfl) (fun _ _ _ h => h) (by kernel_rfl) (fun j_ hj _ h => h.2 hj) (fun _ h => ⟨fun hj => absurd hj (by decide), fun _ => h⟩) (by rfl) (by intro wq hq; have c_2 : wq.cell? ⟨p_, 2, none⟩ = some (.int .i64 y.f2.f0) := hq.cell 2; have c_3 : wq.cell? ⟨p_, 3, none⟩ = some (.int .i64 y.f2.f1) := hq.cell 3; have c_4 : wq.cell? ⟨p_, 4, none⟩ = some (.int .i64 y.f2.f2) := hq.cell 4; have c_5 : wq.cell? ⟨p_, 5, none⟩ = some (.int .u64 y.f2.f3) := hq.cell 5; have c_6 : wq.cell? ⟨p_, 6, none⟩ = some (.int .i64 y.f2.f4) := hq.cell 6; have c_7 : wq.cell? ⟨p_, 7, none⟩ = some (.slice Y5 y.f2.f5.length y5) := hq.cell 7; have c_8 : wq.cell? ⟨p_, 8, none⟩ = some (.slice Y6 y.f2.f6.length y6) := hq.cell 8; have c_9 : wq.cell? ⟨p_, 9, none⟩ = some (.slice Y7 y.f2.f7.length y7) := hq.cell 9; have c_10 : wq.cell? ⟨p_, 10, none⟩ = some (.bool y.f2.f8) := hq.cell 10; go_simp) HY3.out ?_
              simp only [Act.put, List.setIfInBounds_toArray, List.set_cons_zero, List.set_cons_succ]
              refine wpAnyP_take' (fun w' => Row w' g 61 #[v0, s1, v2, s3, s4, (.slice D_ xs.length d_), s6, .int .i64 m.f7, (.slice none 0 0), (.slice none 0 0), (.slice none 0 0)] ∧ Row w' p_ 106 #[.int .i64 y.f0, .bool y.f1, .int .i64 y.f2.f0, .int .i64 y.f2.f1, .int .i64 y.f2.f2, .int .u64 y.f2.f3, .int .i64 y.f2.f4, .slice Y5 y.f2.f5.length y5, .slice Y6 y.f2.f6.length y6, .slice Y7 y.f2.f7.length y7, .bool y.f2.f8]) (fun j_ => [8, 9, 10].contains j_) 1 (.slice D_ xs.length d_) rfl (by kernel_rfl) (by kernel_rfl) (by kernel_rfl) (fun _ _ _ h => h) (by kernel_rfl) (fun j_ hj _ h => ⟨h.1 hj, h.2 (show ([8, 9, 10].contains j_ || [1, 3, 5, 7, 11].contains j_) = true by rw [show ([8, 9, 10].contains j_) = true from hj]; rfl)⟩) (fun _ h => ⟨fun hj => absurd hj (by decide), fun _ => h.2⟩) (by rfl) (by intro wq hq; have c_ : wq.cell? ⟨g, 5, none⟩ = some (.slice D_ xs.length d_) := hq.1.cell 5; go_simp) ⟨HM3.out.row, HY3.out⟩ ?_
              simp only [Act.put, List.setIfInBounds_toArray, List.set_cons_zero, List.set_cons_succ]
              refine wpAnyP_one (i := 8) (by kernel_rfl) (wpOp_run (i := 8) rfl (fun K8 hK8 => ?_))
              go_simp
              refine (one_copy' y.f2 (HBm.out.t5 _ HMem.out) HlY5.out (Kd.C_below HgY5.out HM3.out.low) HlY6.out (Kd.C_below HgY6.out HM3.out.low) HlY7.out (Kd.C_below HgY7.out HM3.out.low)).mono ?_
              rintro e w4 ⟨E5, e5, E6, e6, E7, e7, rfl, hro, hb_⟩
              refine hK8.out _ _ ⟨⟨fun _ => (HM3.out.step hb_).row, fun _ => HY3.out.below hb_ HY3.out.lt⟩, ?_⟩
              have HM4 := Aside0.mk (HM3.out.step hb_)
              have HY4 := Aside0.mk (HY3.out.below hb_ HY3.out.lt)
              have HS4 := Aside0.mk hb_.size
              clear hb_ hK8 K8  HY3
              simp only [Act.put, List.setIfInBounds_toArray, List.set_cons_zero, List.set_cons_succ]
              have hMy : k106.M w4 w.heap.size (fun k_ => some k_ ≠ (Value.slice D_ xs.length d_).ownBlock) y [.int .i64 y.f0, .bool y.f1, .int .i64 y.f2.f0, .int .i64 y.f2.f1, .int .i64 y.f2.f2, .int .u64 y.f2.f3, .int .i64 y.f2.f4, .slice E5 y.f2.f5.length e5, .slice E6 y.f2.f6.length e6, .slice E7 y.f2.f7.length e7, .bool y.f2.f8] := k106.M_mono (fun _ hk => hk.2) (k106.M_lower HM3.out.low.size (Kd.M_new (show k106.M w4 w3.heap.size (fun _ => True) y [.int .i64 y.f0, .bool y.f1, .int .i64 y.f2.f0, .int .i64 y.f2.f1, .int .i64 y.f2.f2, .int .u64 y.f2.f3, .int .i64 y.f2.f4, .slice E5 y.f2.f5.length e5, .slice E6 y.f2.f6.length e6, .slice E7 y.f2.f7.length e7, .bool y.f2.f8] from ⟨[.int .i64 y.f0], _, rfl, rfl, ⟨[.bool y.f1], _, rfl, rfl, hro⟩⟩) (Kd.R_own HM3.out.r5).choose_spec))
              have HMy := Aside0.mk hMy
              clear hMy hro
              refine wpAnyP_one (i := 9) (by kernel_rfl) (wpOp_run (i := 9) rfl (fun K9 hK9 => ?_))
              go_simp
              refine hK9.out _ _ ⟨⟨fun _ => HM4.out.row, fun _ => HY4.out⟩, ?_⟩
              clear hK9 K9
              simp only [Act.put, List.setIfInBounds_toArray, List.set_cons_zero, List.set_cons_succ]
              refine wpAnyP_one (i := 10) (by kernel_rfl) (wpOp_run (i := 10) rfl (fun K10 hK10 => ?_))
              go_simp
              refine hK10.out _ _ ⟨⟨fun _ => St.Row.alloc HM4.out.row _, fun _ => St.Row.alloc HY4.out _⟩, ?_⟩
              clear hK10 K10
              simp only [Act.put, List.setIfInBounds_toArray, List.set_cons_zero, List.set_cons_succ]
              refine wpAnyP_one (i := 11) (by kernel_rfl) (wpOp_run (i := 11) rfl (fun K11 hK11 => ?_))
              refine Kd.R_append_step (W := w4) (w0 := w) k106 w.heap.size (by rfl) (.tmp 76) (.tmp 85) 55 106 (.agg #[.int .i64 0, .bool false, .int .i64 0, .int .i64 0, .int .i64 0, .int .u64 0, .int .i64 0, .slice none 0 0, .slice none 0 0, .slice none 0 0, .bool false]) 136 rfl Try.underlying55 (by kernel_rfl) rfl (by decide) (by decide) (.slice D_ xs.length d_) xs y [.int .i64 y.f0, .bool y.f1, .int .i64 y.f2.f0, .int .i64 y.f2.f1, .int .i64 y.f2.f2, .int .u64 y.f2.f3, .int .i64 y.f2.f4, .slice E5 y.f2.f5.length e5, .slice E6 y.f2.f6.length e6, .slice E7 y.f2.f7.length e7, .bool y.f2.f8] (fun _ => True) (fun k_ => some k_ ≠ (Value.slice D_ xs.length d_).ownBlock) rfl (by rfl) HMy.out (fun _ hk => ⟨trivial, hk⟩) (fun _ _ => trivial) HM4.out.r5 HM4.out.low HM4.out.low.size (by have e1 := HT.out; have e2 := HBm.out.h5; have e3 := HLt.out; have e4 := congrArg List.length e1; rw [List.length_take] at e4; omega) ?_
              rintro u_ w6 hR6 hB6 hg6 hat6
              obtain ⟨U_, e_, rfl⟩ := Kd.R_slice hR6
              rw [List.length_append, List.length_singleton] at hR6 ⊢
              refine hK11.out _ _ ⟨⟨fun hj => absurd hj (by decide), fun _ => HY4.out.grown hg6 HNe.out⟩, ?_⟩
              have HM6 := Aside0.mk (HM4.out.app5 hR6 hg6)
              have r6 := HM4.out.row.grown hg6 (fun e => Kd.R_ne HM4.out.r5 HM4.out.row (by decide) e.symm)
              have q6 : w6.cell? ⟨g, 5, none⟩ = some (.slice D_ xs.length d_) := r6.cell 5
              have z6 := r6.frozen 5
              clear hK11 K11 hR6 hB6 hg6 hat6 r6
              simp only [Act.put, List.setIfInBounds_toArray, List.set_cons_zero, List.set_cons_succ]
              refine wpAnyP_one (i := 12) (by kernel_rfl) (wpOp_run (i := 12) rfl (fun K12 hK12 => ?_))
              go_simp
              refine hK12.out _ _ ⟨⟨fun hj => absurd hj (by decide), fun hj => absurd hj (by decide)⟩, ?_⟩
              clear hK12 K12
              simp only [Act.put, List.setIfInBounds_toArray, List.set_cons_zero, List.set_cons_succ]
              refine wpAnyP_one (i := 13) (by kernel_rfl) (wpOp_run (i := 13) rfl (fun K13 hK13 => ?_))
              go_simp
              refine hK13.out _ _ ⟨⟨fun hj => absurd hj (by decide), fun hj => absurd hj (by decide)⟩, ?_⟩
              clear hK13 K13 q6 z6
              simp only [Act.put, List.setIfInBounds_toArray, List.set_cons_zero, List.set_cons_succ]
              refine wpAnyP_done (by kernel_rfl) ?_ _
              go_wp2_with fail
              go_roundg (m.f5.length - (k + 1).toNat)
              case measure => omega
              case rel => exact ⟨k + 1, xs ++ [y], _, by first | rfl | (simp; done) | (simp [*]; done), ⟨⟨by omega, by omega⟩⟩, ⟨by rw [HT.out]; exact HTk.out⟩, HM6⟩
            · have d0 : decide (k < (m.f5.length : Int)) = false := decide_eq_false hlt
              go_wp2_with fail
              go_meet
              case rel =>
                have e1 : xs = m.f5 := by rw [HT.out, List.take_of_length_le (by omega)]
                subst e1
                exact ⟨v5, HM⟩
        case rest =>
          clear HM
          obtain ⟨v5, HM⟩ := hcut
          have xb : wc.cell? ⟨w.heap.size, 8, none⟩ = some (.slice A8 m.f8.length c8) := HM.out.box.cell 8
          go_upto_block 6 with (fail)
          clear xb
          go_cut [] from 4 to 148 (fun wd8 => ∃ v8 : Value, Aside0 (Mv w wd8 g #[.slice A0 m.f0.length c0, .slice A1 m.f1.length c1, .slice A2 m.f2.length c2, .slice A3 m.f3.length c3, .slice A4 m.f4.length c4, .slice A5 m.f5.length c5, .slice A6 m.f6.length c6, .int .i64 m.f7, .slice A8 m.f8.length c8, .slice A9 m.f9.length c9, .slice A10 m.f10.length c10] ⟨m.f0, m.f1, m.f2, m.f3, m.f4, m.f5, m.f6, m.f7, m.f8, [], []⟩ v0 s1 v2 s3 s4 v5 s6 v8 (.slice none 0 0) (.slice none 0 0)))
          case first =>
            go_wp2_with fail
            go_loopg [92] m.f8.length (fun q_ v_ w_ => ∃ (k : Int) (xs : List _) (v8 : Value), v_ = .int .i64 k ∧ Aside0 (0 ≤ k ∧ (q_ : Int) + k = m.f8.length) ∧ Aside0 (xs = m.f8.take k.toNat) ∧ Aside0 (Mv w w_ g #[.slice A0 m.f0.length c0, .slice A1 m.f1.length c1, .slice A2 m.f2.length c2, .slice A3 m.f3.length c3, .slice A4 m.f4.length c4, .slice A5 m.f5.length c5, .slice A6 m.f6.length c6, .int .i64 m.f7, .slice A8 m.f8.length c8, .slice A9 m.f9.length c9, .slice A10 m.f10.length c10] ⟨m.f0, m.f1, m.f2, m.f3, m.f4, m.f5, m.f6, m.f7, xs, [], []⟩ v0 s1 v2 s3 s4 v5 s6 v8 (.slice none 0 0) (.slice none 0 0)))
            case atStart => exact ⟨0, [], .slice none 0 0, rfl, ⟨⟨Int.le_refl _, by omega⟩⟩, ⟨rfl⟩, HM⟩
            case round =>
              clear HM
              obtain ⟨k, xs, v8, rfl, HK, HT, HM⟩ := hrel
              have hk0 := HK.out.1
              have hk1 := HK.out.2
              by_cases hlt : k < (m.f8.length : Int)
              · have d0 : decide (k < (m.f8.length : Int)) = true := decide_eq_true hlt
                have d1 : decide (0 ≤ k) = true := decide_eq_true hk0
                obtain ⟨ad, Y5, y5, Y6, y6, Y7, y7, Y9, y9, eA, q0, q1, q2, q3, q4, q5, q6, q7, q8, q9, lY5, gY5, lY6, gY6, lY7, gY7, lY9, gY9⟩ := at_T108 G8.out k hk0 hlt
                cases eA
                have hmem : rd_T108 m.f8 k ∈ m.f8 := getD_mem_ m.f8 _ k hk0 hlt
                have htk : m.f8.take k.toNat ++ [rd_T108 m.f8 k] = m.f8.take (k + 1).toNat := take_next m.f8 _ k hk0 hlt
                generalize rd_T108 m.f8 k = y at *
                replace q0 := (HM.out.low.cell (World.block_lt_of_cell? w _ q0)).trans q0
                replace q1 := (HM.out.low.cell (World.block_lt_of_cell? w _ q1)).trans q1
                replace q2 := (HM.out.low.cell (World.block_lt_of_cell? w _ q2)).trans q2
                replace q3 := (HM.out.low.cell (World.block_lt_of_cell? w _ q3)).trans q3
                replace q4 := (HM.out.low.cell (World.block_lt_of_cell? w _ q4)).trans q4
                replace q5 := (HM.out.low.cell (World.block_lt_of_cell? w _ q5)).trans q5
                replace q6 := (HM.out.low.cell (World.block_lt_of_cell? w _ q6)).trans q6
                replace q7 := (HM.out.low.cell (World.block_lt_of_cell? w _ q7)).trans q7
                replace q8 := (HM.out.low.cell (World.block_lt_of_cell? w _ q8)).trans q8
                replace q9 := (HM.out.low.cell (World.block_lt_of_cell? w _ q9)).trans q9
                have HlY5 := Aside0.mk lY5
                have HgY5 := Aside0.mk gY5
                have HlY6 := Aside0.mk lY6
                have HgY6 := Aside0.mk gY6
                have HlY7 := Aside0.mk lY7
                have HgY7 := Aside0.mk gY7
                have HlY9 := Aside0.mk lY9
                have HgY9 := Aside0.mk gY9
                have HMem := Aside0.mk hmem; have HTk := Aside0.mk htk; have HLt := Aside0.mk hlt
                have ew : IntKind.i64.wrap (k + 1) = k + 1 := by have := HBm.out.h8; rw [IntKind.wrap_i64]; omega
                clear hmem htk lY5 gY5 lY6 gY6 lY7 gY7 lY9 gY9
                obtain ⟨D_, d_, eD⟩ := Kd.R_slice HM.out.r8
                change _ = Value.slice D_ xs.length d_ at eD
                subst eD
                go_upto_region 20 with fail
                obtain ⟨p_, hp_⟩ : ∃ p_, p_ = wr.heap.size := ⟨_, rfl⟩
                obtain ⟨w3, hw3⟩ : ∃ w3, w3 = (wr.alloc (.cells #[.int .i64 y.f0.f0, .int .i64 y.f0.f1, .int .i64 y.f0.f2, .int .u64 y.f0.f3, .int .i64 y.f0.f4, .slice Y5 y.f0.f5.length y5, .slice Y6 y.f0.f6.length y6, .slice Y7 y.f0.f7.length y7, .bool y.f0.f8, .slice Y9 y.f1.length y9] 108)).drew := ⟨_, rfl⟩
                have hY3 : Row w3 p_ 108 #[.int .i64 y.f0.f0, .int .i64 y.f0.f1, .int .i64 y.f0.f2, .int .u64 y.f0.f3, .int .i64 y.f0.f4, .slice Y5 y.f0.f5.length y5, .slice Y6 y.f0.f6.length y6, .slice Y7 y.f0.f7.length y7, .bool y.f0.f8, .slice Y9 y.f1.length y9] := by rw [hw3, hp_]; exact St.Row.made wr 108 #[.int .i64 y.f0.f0, .int .i64 y.f0.f1, .int .i64 y.f0.f2, .int .u64 y.f0.f3, .int .i64 y.f0.f4, .slice Y5 y.f0.f5.length y5, .slice Y6 y.f0.f6.length y6, .slice Y7 y.f0.f7.length y7, .bool y.f0.f8, .slice Y9 y.f1.length y9] rfl
                have hM3 : Mv w w3 g #[.slice A0 m.f0.length c0, .slice A1 m.f1.length c1, .slice A2 m.f2.length c2, .slice A3 m.f3.length c3, .slice A4 m.f4.length c4, .slice A5 m.f5.length c5, .slice A6 m.f6.length c6, .int .i64 m.f7, .slice (some ad) m.f8.length c8, .slice A9 m.f9.length c9, .slice A10 m.f10.length c10] ⟨m.f0, m.f1, m.f2, m.f3, m.f4, m.f5, m.f6, m.f7, xs, [], []⟩ v0 s1 v2 s3 s4 v5 s6 (.slice D_ xs.length d_) (.slice none 0 0) (.slice none 0 0) := by rw [hw3]; exact (HM.out.step (below_alloc (Below.refl _ _) _)).drew
                have HNe := Aside0.mk (show (Value.slice D_ xs.length d_).ownBlock ≠ some p_ from fun e => by have := Kd.R_lt HM.out.r8 p_ e; omega)
                refine wp_region_heldP (fun j_ w' => ([4, 7, 8, 9].contains j_ = true → Row w' g 61 #[v0, s1, v2, s3, s4, v5, s6, .int .i64 m.f7, (.slice D_ xs.length d_), (.slice none 0 0), (.slice none 0 0)]) ∧ (([4, 7, 8, 9].contains j_ || [1, 3, 6, 10].contains j_) = true → Row w' p_ 108 #[.int .i64 y.f0.f0, .int .i64 y.f0.f1, .int .i64 y.f0.f2, .int .u64 y.f0.f3, .int .i64 y.f0.f4, .slice Y5 y.f0.f5.length y5, .slice Y6 y.f0.f6.length y6, .slice Y7 y.f0.f7.length y7, .bool y.f0.f8, .slice Y9 y.f1.length y9])) (by kernel_rfl) ?_
                rw [← hp_, ← hw3]
                clear hw3 hp_
                simp only [List.size_toArray, List.length_cons, List.length_nil, Nat.zero_add, Nat.reduceAdd, Array.replicate, List.replicate]
                have HM3 := Aside0.mk hM3; have HY3 := Aside0.mk hY3
                clear hM3 hY3 HM q0 q1 q2 q3 q4 q5 q6 q7 q8 q9
                refine wpAnyP_take' (fun _ => True) (fun _ => true) 0 (.pointer (some ⟨g, 8, none⟩)) rfl (by kernel_rfl) (by kernel_rfl) (by kernel_rfl) (fun _ _ _ h => h) (by kernel_rfl) (fun _ _ _ _ => trivial) (fun _ _ => ⟨fun hj => absurd hj (by decide), fun hj => absurd hj (by decide)⟩) (by rfl) (by intro wq _; go_simp) trivial ?_
                simp only [Act.put, List.setIfInBounds_toArray, List.set_cons_zero, List.set_cons_succ]
                refine wpAnyP_take' (fun _ => True) (fun _ => true) 2 (.pointer (some ⟨p_, 0, none⟩)) rfl (by kernel_rfl) (by kernel_rfl) (by kernel_rfl) (fun _ _ _ h => h) (by kernel_rfl) (fun _ _ _ _ => trivial) (fun _ _ => ⟨fun hj => absurd hj (by decide), fun hj => absurd hj (by decide)⟩) (by rfl) (by intro wq _; go_simp) trivial ?_
                simp only [Act.put, List.setIfInBounds_toArray, List.set_cons_zero, List.set_cons_succ]
                refine wpAnyP_take' (fun _ => True) (fun _ => true) 5 (.pointer (some ⟨p_, 9, none⟩)) rfl (by kernel_rfl) (by kernel_rfl) (by kernel_rfl) (fun _ _ _ h => h) (by kernel_rfl) (fun _ _ _ _ => trivial) (fun _ _ => ⟨fun hj => absurd hj (by decide), fun hj => absurd hj (by decide)⟩) (by rfl) (by intro wq _; go_simp) trivial ?_
                simp only [Act.put, List.setIfInBounds_toArray, List.set_cons_zero, List.set_cons_succ]
                refine wpAnyP_take' (fun w' => Row w' p_ 108 #[.int .i64 y.f0.f0, .int .i64 y.f0.f1, .int .i64 y.f0.f2, .int .u64 y.f0.f3, .int .i64 y.f0.f4, .slice Y5 y.f0.f5.length y5, .slice Y6 y.f0.f6.length y6, .slice Y7 y.f0.f7.length y7, .bool y.f0.f8, .slice Y9 y.f1.length y9]) (fun j_ => [4, 7, 8, 9].contains j_ || [1, 3, 6, 10].contains j_) 3 (.agg #[.int .i64 y.f0.f0, .int .i64 y.f0.f1, .int .i64 y.f0.f2, .int .u64 y.f0.f3, .int .i64 y.f0.f4, .slice Y5 y.f0.f5.length y5, .slice Y6 y.f0.f6.length y6, .slice Y7 y.f0.f7.length y7, .bool y.f0.f8]) rfl (by kernel_rfl) (by kernel_rfl) (by kernel_rfl) (fun _ _ _ h => h) (by kernel_rfl) (fun j_ hj _ h => h.2 hj) (fun _ h => ⟨fun hj => absurd hj (by decide), fun _ => h⟩) (by rfl) (by intro wq hq; have c_0 : wq.cell? ⟨p_, 0, none⟩ = some (.int .i64 y.f0.f0) := hq.cell 0; have c_1 : wq.cell? ⟨p_, 1, none⟩ = some (.int .i64 y.f0.f1) := hq.cell 1; have c_2 : wq.cell? ⟨p_, 2, none⟩ = some (.int .i64 y.f0.f2) := hq.cell 2; have c_3 : wq.cell? ⟨p_, 3, none⟩ = some (.int .u64 y.f0.f3) := hq.cell 3; have c_4 : wq.cell? ⟨p_, 4, none⟩ = some (.int .i64 y.f0.f4) := hq.cell 4; have c_5 : wq.cell? ⟨p_, 5, none⟩ = some (.slice Y5 y.f0.f5.length y5) := hq.cell 5; have c_6 : wq.cell? ⟨p_, 6, none⟩ = some (.slice Y6 y.f0.f6.length y6) := hq.cell 6; have c_7 : wq.cell? ⟨p_, 7, none⟩ = some (.slice Y7 y.f0.f7.length y7) := hq.cell 7; have c_8 : wq.cell? ⟨p_, 8, none⟩ = some (.bool y.f0.f8) := hq.cell 8; go_simp) HY3.out ?_
                simp only [Act.put, List.setIfInBounds_toArray, List.set_cons_zero, List.set_cons_succ]
                refine wpAnyP_take' (fun w' => Row w' p_ 108 #[.int .i64 y.f0.f0, .int .i64 y.f0.f1, .int .i64 y.f0.f2, .int .u64 y.f0.f3, .int .i64 y.f0.f4, .slice Y5 y.f0.f5.length y5, .slice Y6 y.f0.f6.length y6, .slice Y7 y.f0.f7.length y7, .bool y.f0.f8, .slice Y9 y.f1.length y9]) (fun j_ => [4, 7, 8, 9].contains j_ || [1, 3, 6, 10].contains j_) 6 (.slice Y9 y.f1.length y9) rfl (by kernel_rfl) (by kernel_rfl) (by kernel_rfl) (fun _ _ _ h => h) (by kernel_rfl) (fun j_ hj _ h => h.2 hj) (fun _ h => ⟨fun hj => absurd hj (by decide), fun _ => h⟩) (by rfl) (by intro wq hq; have c_9 : wq.cell? ⟨p_, 9, none⟩ = some (.slice Y9 y.f1.length y9) := hq.cell 9; go_simp) HY3.out ?_
                simp only [Act.put, List.setIfInBounds_toArray, List.set_cons_zero, List.set_cons_succ]
                refine wpAnyP_take' (fun w' => Row w' g 61 #[v0, s1, v2, s3, s4, v5, s6, .int .i64 m.f7, (.slice D_ xs.length d_), (.slice none 0 0), (.slice none 0 0)] ∧ Row w' p_ 108 #[.int .i64 y.f0.f0, .int .i64 y.f0.f1, .int .i64 y.f0.f2, .int .u64 y.f0.f3, .int .i64 y.f0.f4, .slice Y5 y.f0.f5.length y5, .slice Y6 y.f0.f6.length y6, .slice Y7 y.f0.f7.length y7, .bool y.f0.f8, .slice Y9 y.f1.length y9]) (fun j_ => [4, 7, 8, 9].contains j_) 1 (.slice D_ xs.length d_) rfl (by kernel_rfl) (by kernel_rfl) (by kernel_rfl) (fun _ _ _ h => h) (by kernel_rfl) (fun j_ hj _ h => ⟨h.1 hj, h.2 (show ([4, 7, 8, 9].contains j_ || [1, 3, 6, 10].contains j_) = true by rw [show ([4, 7, 8, 9].contains j_) = true from hj]; rfl)⟩) (fun _ h => ⟨fun hj => absurd hj (by decide), fun _ => h.2⟩) (by rfl) (by intro wq hq; have c_ : wq.cell? ⟨g, 8, none⟩ = some (.slice D_ xs.length d_) := hq.1.cell 8; go_simp) ⟨HM3.out.row, HY3.out⟩ ?_
                simp only [Act.put, List.setIfInBounds_toArray, List.set_cons_zero, List.set_cons_succ]
                refine wpAnyP_one (i := 4) (by kernel_rfl) (wpOp_run (i := 4) rfl (fun K4 hK4 => ?_))
                go_simp
                refine (one_copy' y.f0 (HBm.out.t8 _ HMem.out).1 HlY5.out (Kd.C_below HgY5.out HM3.out.low) HlY6.out (Kd.C_below HgY6.out HM3.out.low) HlY7.out (Kd.C_below HgY7.out HM3.out.low)).mono ?_
                rintro e w4 ⟨E5, e5, E6, e6, E7, e7, rfl, hro, hb_⟩
                refine hK4.out _ _ ⟨⟨fun _ => (HM3.out.step hb_).row, fun _ => HY3.out.below hb_ HY3.out.lt⟩, ?_⟩
                have HM4 := Aside0.mk (HM3.out.step hb_)
                have HY4 := Aside0.mk (HY3.out.below hb_ HY3.out.lt)
                have HS4 := Aside0.mk hb_.size
                clear hb_ hK4 K4  HY3
                simp only [Act.put, List.setIfInBounds_toArray, List.set_cons_zero, List.set_cons_succ]
                refine wpAnyP_one (i := 7) (by kernel_rfl) (wpOp_run (i := 7) rfl (fun K7 hK7 => ?_))
                go_simp
                refine (ints_copy' y.f1 (HBm.out.t8 _ HMem.out).2 HlY9.out (Kd.C_below HgY9.out HM4.out.low)).mono ?_
                rintro e w5 ⟨Ei, ei, rfl, hri, hb_⟩
                refine hK7.out _ _ ⟨⟨fun _ => (HM4.out.step hb_).row, fun _ => HY4.out.below hb_ HY4.out.lt⟩, ?_⟩
                have HM5 := Aside0.mk (HM4.out.step hb_)
                have HY5 := Aside0.mk (HY4.out.below hb_ HY4.out.lt)
                have HS5 := Aside0.mk hb_.size
                replace hro := Kd.M_below hro hb_
                replace hri := Kd.R_lower hri HS4.out
                clear hb_ hK7 K7 HM4 HY4
                simp only [Act.put, List.setIfInBounds_toArray, List.set_cons_zero, List.set_cons_succ]
                have hMy : k108.M w5 w.heap.size (fun k_ => some k_ ≠ (Value.slice D_ xs.length d_).ownBlock) y [.int .i64 y.f0.f0, .int .i64 y.f0.f1, .int .i64 y.f0.f2, .int .u64 y.f0.f3, .int .i64 y.f0.f4, .slice E5 y.f0.f5.length e5, .slice E6 y.f0.f6.length e6, .slice E7 y.f0.f7.length e7, .bool y.f0.f8, .slice Ei y.f1.length ei] := k108.M_mono (fun _ hk => hk.2) (k108.M_lower HM3.out.low.size (Kd.M_new (show k108.M w5 w3.heap.size (fun _ => True) y [.int .i64 y.f0.f0, .int .i64 y.f0.f1, .int .i64 y.f0.f2, .int .u64 y.f0.f3, .int .i64 y.f0.f4, .slice E5 y.f0.f5.length e5, .slice E6 y.f0.f6.length e6, .slice E7 y.f0.f7.length e7, .bool y.f0.f8, .slice Ei y.f1.length ei] from ⟨[.int .i64 y.f0.f0, .int .i64 y.f0.f1, .int .i64 y.f0.f2, .int .u64 y.f0.f3, .int .i64 y.f0.f4, .slice E5 y.f0.f5.length e5, .slice E6 y.f0.f6.length e6, .slice E7 y.f0.f7.length e7, .bool y.f0.f8], [.slice Ei y.f1.length ei], rfl, hro, ⟨_, rfl, hri⟩⟩) (Kd.R_own HM3.out.r8).choose_spec))
                have HMy := Aside0.mk hMy
                clear hMy hro hri
                refine wpAnyP_one (i := 8) (by kernel_rfl) (wpOp_run (i := 8) rfl (fun K8 hK8 => ?_))
                go_simp
                refine hK8.out _ _ ⟨⟨fun _ => HM5.out.row, fun _ => HY5.out⟩, ?_⟩
                clear hK8 K8
                simp only [Act.put, List.setIfInBounds_toArray, List.set_cons_zero, List.set_cons_succ]
                refine wpAnyP_one (i := 9) (by kernel_rfl) (wpOp_run (i := 9) rfl (fun K9 hK9 => ?_))
                go_simp
                refine hK9.out _ _ ⟨⟨fun _ => St.Row.alloc HM5.out.row _, fun _ => St.Row.alloc HY5.out _⟩, ?_⟩
                clear hK9 K9
                simp only [Act.put, List.setIfInBounds_toArray, List.set_cons_zero, List.set_cons_succ]
                refine wpAnyP_one (i := 10) (by kernel_rfl) (wpOp_run (i := 10) rfl (fun K10 hK10 => ?_))
                refine Kd.R_append_step (W := w5) (w0 := w) k108 w.heap.size (by rfl) (.tmp 97) (.tmp 105) 57 108 (.agg #[.int .i64 0, .int .i64 0, .int .i64 0, .int .u64 0, .int .i64 0, .slice none 0 0, .slice none 0 0, .slice none 0 0, .bool false, .slice none 0 0]) 144 rfl Try.underlying57 (by kernel_rfl) rfl (by decide) (by decide) (.slice D_ xs.length d_) xs y [.int .i64 y.f0.f0, .int .i64 y.f0.f1, .int .i64 y.f0.f2, .int .u64 y.f0.f3, .int .i64 y.f0.f4, .slice E5 y.f0.f5.length e5, .slice E6 y.f0.f6.length e6, .slice E7 y.f0.f7.length e7, .bool y.f0.f8, .slice Ei y.f1.length ei] (fun _ => True) (fun k_ => some k_ ≠ (Value.slice D_ xs.length d_).ownBlock) rfl (by rfl) HMy.out (fun _ hk => ⟨trivial, hk⟩) (fun _ _ => trivial) HM5.out.r8 HM5.out.low HM5.out.low.size (by have e1 := HT.out; have e2 := HBm.out.h8; have e3 := HLt.out; have e4 := congrArg List.length e1; rw [List.length_take] at e4; omega) ?_
                rintro u_ w6 hR6 hB6 hg6 hat6
                obtain ⟨U_, e_, rfl⟩ := Kd.R_slice hR6
                rw [List.length_append, List.length_singleton] at hR6 ⊢
                refine hK10.out _ _ ⟨⟨fun hj => absurd hj (by decide), fun _ => HY5.out.grown hg6 HNe.out⟩, ?_⟩
                have HM6 := Aside0.mk (HM5.out.app8 hR6 hg6)
                have r6 := HM5.out.row.grown hg6 (fun e => Kd.R_ne HM5.out.r8 HM5.out.row (by decide) e.symm)
                have q6 : w6.cell? ⟨g, 8, none⟩ = some (.slice D_ xs.length d_) := r6.cell 8
                have z6 := r6.frozen 8
                clear hK10 K10 hR6 hB6 hg6 hat6 r6
                simp only [Act.put, List.setIfInBounds_toArray, List.set_cons_zero, List.set_cons_succ]
                refine wpAnyP_one (i := 11) (by kernel_rfl) (wpOp_run (i := 11) rfl (fun K11 hK11 => ?_))
                go_simp
                refine hK11.out _ _ ⟨⟨fun hj => absurd hj (by decide), fun hj => absurd hj (by decide)⟩, ?_⟩
                clear hK11 K11
                simp only [Act.put, List.setIfInBounds_toArray, List.set_cons_zero, List.set_cons_succ]
                refine wpAnyP_one (i := 12) (by kernel_rfl) (wpOp_run (i := 12) rfl (fun K12 hK12 => ?_))
                go_simp
                refine hK12.out _ _ ⟨⟨fun hj => absurd hj (by decide), fun hj => absurd hj (by decide)⟩, ?_⟩
                clear hK12 K12 q6 z6
                simp only [Act.put, List.setIfInBounds_toArray, List.set_cons_zero, List.set_cons_succ]
                refine wpAnyP_done (by kernel_rfl) ?_ _
                go_wp2_with fail
                go_roundg (m.f8.length - (k + 1).toNat)
                case measure => omega
                case rel => exact ⟨k + 1, xs ++ [y], _, by first | rfl | (simp; done) | (simp [*]; done), ⟨⟨by omega, by omega⟩⟩, ⟨by rw [HT.out]; exact HTk.out⟩, HM6⟩
              · have d0 : decide (k < (m.f8.length : Int)) = false := decide_eq_false hlt
                go_wp2_with fail
                go_meet
                case rel =>
                  have e1 : xs = m.f8 := by rw [HT.out, List.take_of_length_le (by omega)]
                  subst e1
                  exact ⟨v8, HM⟩
          case rest =>
            clear HM
            obtain ⟨v8, HM⟩ := hcut
            have xb : wc.cell? ⟨w.heap.size, 9, none⟩ = some (.slice A9 m.f9.length c9) := HM.out.box.cell 9
            go_upto_block 8 with (fail)
            clear xb
            go_cut [] from 4 to 148 (fun wd9 => ∃ v9 : Value, Aside0 (Mv w wd9 g #[.slice A0 m.f0.length c0, .slice A1 m.f1.length c1, .slice A2 m.f2.length c2, .slice A3 m.f3.length c3, .slice A4 m.f4.length c4, .slice A5 m.f5.length c5, .slice A6 m.f6.length c6, .int .i64 m.f7, .slice A8 m.f8.length c8, .slice A9 m.f9.length c9, .slice A10 m.f10.length c10] ⟨m.f0, m.f1, m.f2, m.f3, m.f4, m.f5, m.f6, m.f7, m.f8, m.f9, []⟩ v0 s1 v2 s3 s4 v5 s6 v8 v9 (.slice none 0 0)))
            case first =>
              go_wp2_with fail
              go_loopg [112] m.f9.length (fun q_ v_ w_ => ∃ (k : Int) (xs : List _) (v9 : Value), v_ = .int .i64 k ∧ Aside0 (0 ≤ k ∧ (q_ : Int) + k = m.f9.length) ∧ Aside0 (xs = m.f9.take k.toNat) ∧ Aside0 (Mv w w_ g #[.slice A0 m.f0.length c0, .slice A1 m.f1.length c1, .slice A2 m.f2.length c2, .slice A3 m.f3.length c3, .slice A4 m.f4.length c4, .slice A5 m.f5.length c5, .slice A6 m.f6.length c6, .int .i64 m.f7, .slice A8 m.f8.length c8, .slice A9 m.f9.length c9, .slice A10 m.f10.length c10] ⟨m.f0, m.f1, m.f2, m.f3, m.f4, m.f5, m.f6, m.f7, m.f8, xs, []⟩ v0 s1 v2 s3 s4 v5 s6 v8 v9 (.slice none 0 0)))
              case atStart => exact ⟨0, [], .slice none 0 0, rfl, ⟨⟨Int.le_refl _, by omega⟩⟩, ⟨rfl⟩, HM⟩
              case round =>
                clear HM
                obtain ⟨k, xs, v9, rfl, HK, HT, HM⟩ := hrel
                have hk0 := HK.out.1
                have hk1 := HK.out.2
                by_cases hlt : k < (m.f9.length : Int)
                · have d0 : decide (k < (m.f9.length : Int)) = true := decide_eq_true hlt
                  have d1 : decide (0 ≤ k) = true := decide_eq_true hk0
                  obtain ⟨ad, Y5, y5, Y6, y6, Y7, y7, Y9, y9, eA, q0, q1, q2, q3, q4, q5, q6, q7, q8, q9, lY5, gY5, lY6, gY6, lY7, gY7, lY9, gY9⟩ := at_T111 G9.out k hk0 hlt
                  cases eA
                  have hmem : rd_T111 m.f9 k ∈ m.f9 := getD_mem_ m.f9 _ k hk0 hlt
                  have htk : m.f9.take k.toNat ++ [rd_T111 m.f9 k] = m.f9.take (k + 1).toNat := take_next m.f9 _ k hk0 hlt
                  generalize rd_T111 m.f9 k = y at *
                  replace q0 := (HM.out.low.cell (World.block_lt_of_cell? w _ q0)).trans q0
                  replace q1 := (HM.out.low.cell (World.block_lt_of_cell? w _ q1)).trans q1
                  replace q2 := (HM.out.low.cell (World.block_lt_of_cell? w _ q2)).trans q2
                  replace q3 := (HM.out.low.cell (World.block_lt_of_cell? w _ q3)).trans q3
                  replace q4 := (HM.out.low.cell (World.block_lt_of_cell? w _ q4)).trans q4
                  replace q5 := (HM.out.low.cell (World.block_lt_of_cell? w _ q5)).trans q5
                  replace q6 := (HM.out.low.cell (World.block_lt_of_cell? w _ q6)).trans q6
                  replace q7 := (HM.out.low.cell (World.block_lt_of_cell? w _ q7)).trans q7
                  replace q8 := (HM.out.low.cell (World.block_lt_of_cell? w _ q8)).trans q8
                  replace q9 := (HM.out.low.cell (World.block_lt_of_cell? w _ q9)).trans q9
                  have HlY5 := Aside0.mk lY5
                  have HgY5 := Aside0.mk gY5
                  have HlY6 := Aside0.mk lY6
                  have HgY6 := Aside0.mk gY6
                  have HlY7 := Aside0.mk lY7
                  have HgY7 := Aside0.mk gY7
                  have HlY9 := Aside0.mk lY9
                  have HgY9 := Aside0.mk gY9
                  have HMem := Aside0.mk hmem; have HTk := Aside0.mk htk; have HLt := Aside0.mk hlt
                  have ew : IntKind.i64.wrap (k + 1) = k + 1 := by have := HBm.out.h9; rw [IntKind.wrap_i64]; omega
                  clear hmem htk lY5 gY5 lY6 gY6 lY7 gY7 lY9 gY9
                  obtain ⟨D_, d_, eD⟩ := Kd.R_slice HM.out.r9
                  change _ = Value.slice D_ xs.length d_ at eD
                  subst eD
                  go_upto_region 25 with fail
                  obtain ⟨p_, hp_⟩ : ∃ p_, p_ = wr.heap.size := ⟨_, rfl⟩
                  obtain ⟨w3, hw3⟩ : ∃ w3, w3 = (wr.alloc (.cells #[.int .i64 y.f0.f0, .int .i64 y.f0.f1, .int .i64 y.f0.f2, .int .u64 y.f0.f3, .int .i64 y.f0.f4, .slice Y5 y.f0.f5.length y5, .slice Y6 y.f0.f6.length y6, .slice Y7 y.f0.f7.length y7, .bool y.f0.f8, .slice Y9 y.f1.length y9] 111)).drew := ⟨_, rfl⟩
                  have hY3 : Row w3 p_ 111 #[.int .i64 y.f0.f0, .int .i64 y.f0.f1, .int .i64 y.f0.f2, .int .u64 y.f0.f3, .int .i64 y.f0.f4, .slice Y5 y.f0.f5.length y5, .slice Y6 y.f0.f6.length y6, .slice Y7 y.f0.f7.length y7, .bool y.f0.f8, .slice Y9 y.f1.length y9] := by rw [hw3, hp_]; exact St.Row.made wr 111 #[.int .i64 y.f0.f0, .int .i64 y.f0.f1, .int .i64 y.f0.f2, .int .u64 y.f0.f3, .int .i64 y.f0.f4, .slice Y5 y.f0.f5.length y5, .slice Y6 y.f0.f6.length y6, .slice Y7 y.f0.f7.length y7, .bool y.f0.f8, .slice Y9 y.f1.length y9] rfl
                  have hM3 : Mv w w3 g #[.slice A0 m.f0.length c0, .slice A1 m.f1.length c1, .slice A2 m.f2.length c2, .slice A3 m.f3.length c3, .slice A4 m.f4.length c4, .slice A5 m.f5.length c5, .slice A6 m.f6.length c6, .int .i64 m.f7, .slice A8 m.f8.length c8, .slice (some ad) m.f9.length c9, .slice A10 m.f10.length c10] ⟨m.f0, m.f1, m.f2, m.f3, m.f4, m.f5, m.f6, m.f7, m.f8, xs, []⟩ v0 s1 v2 s3 s4 v5 s6 v8 (.slice D_ xs.length d_) (.slice none 0 0) := by rw [hw3]; exact (HM.out.step (below_alloc (Below.refl _ _) _)).drew
                  have HNe := Aside0.mk (show (Value.slice D_ xs.length d_).ownBlock ≠ some p_ from fun e => by have := Kd.R_lt HM.out.r9 p_ e; omega)
                  refine wp_region_heldP (fun j_ w' => ([4, 7, 8, 9].contains j_ = true → Row w' g 61 #[v0, s1, v2, s3, s4, v5, s6, .int .i64 m.f7, v8, (.slice D_ xs.length d_), (.slice none 0 0)]) ∧ (([4, 7, 8, 9].contains j_ || [1, 3, 6, 10].contains j_) = true → Row w' p_ 111 #[.int .i64 y.f0.f0, .int .i64 y.f0.f1, .int .i64 y.f0.f2, .int .u64 y.f0.f3, .int .i64 y.f0.f4, .slice Y5 y.f0.f5.length y5, .slice Y6 y.f0.f6.length y6, .slice Y7 y.f0.f7.length y7, .bool y.f0.f8, .slice Y9 y.f1.length y9])) (by kernel_rfl) ?_
                  rw [← hp_, ← hw3]
                  clear hw3 hp_
                  simp only [List.size_toArray, List.length_cons, List.length_nil, Nat.zero_add, Nat.reduceAdd, Array.replicate, List.replicate]
                  have HM3 := Aside0.mk hM3; have HY3 := Aside0.mk hY3
                  clear hM3 hY3 HM q0 q1 q2 q3 q4 q5 q6 q7 q8 q9
                  refine wpAnyP_take' (fun _ => True) (fun _ => true) 0 (.pointer (some ⟨g, 9, none⟩)) rfl (by kernel_rfl) (by kernel_rfl) (by kernel_rfl) (fun _ _ _ h => h) (by kernel_rfl) (fun _ _ _ _ => trivial) (fun _ _ => ⟨fun hj => absurd hj (by decide), fun hj => absurd hj (by decide)⟩) (by rfl) (by intro wq _; go_simp) trivial ?_
                  simp only [Act.put, List.setIfInBounds_toArray, List.set_cons_zero, List.set_cons_succ]
                  refine wpAnyP_take' (fun _ => True) (fun _ => true) 2 (.pointer (some ⟨p_, 0, none⟩)) rfl (by kernel_rfl) (by kernel_rfl) (by kernel_rfl) (fun _ _ _ h => h) (by kernel_rfl) (fun _ _ _ _ => trivial) (fun _ _ => ⟨fun hj => absurd hj (by decide), fun hj => absurd hj (by decide)⟩) (by rfl) (by intro wq _; go_simp) trivial ?_
                  simp only [Act.put, List.setIfInBounds_toArray, List.set_cons_zero, List.set_cons_succ]
                  refine wpAnyP_take' (fun _ => True) (fun _ => true) 5 (.pointer (some ⟨p_, 9, none⟩)) rfl (by kernel_rfl) (by kernel_rfl) (by kernel_rfl) (fun _ _ _ h => h) (by kernel_rfl) (fun _ _ _ _ => trivial) (fun _ _ => ⟨fun hj => absurd hj (by decide), fun hj => absurd hj (by decide)⟩) (by rfl) (by intro wq _; go_simp) trivial ?_
                  simp only [Act.put, List.setIfInBounds_toArray, List.set_cons_zero, List.set_cons_succ]
                  refine wpAnyP_take' (fun w' => Row w' p_ 111 #[.int .i64 y.f0.f0, .int .i64 y.f0.f1, .int .i64 y.f0.f2, .int .u64 y.f0.f3, .int .i64 y.f0.f4, .slice Y5 y.f0.f5.length y5, .slice Y6 y.f0.f6.length y6, .slice Y7 y.f0.f7.length y7, .bool y.f0.f8, .slice Y9 y.f1.length y9]) (fun j_ => [4, 7, 8, 9].contains j_ || [1, 3, 6, 10].contains j_) 3 (.agg #[.int .i64 y.f0.f0, .int .i64 y.f0.f1, .int .i64 y.f0.f2, .int .u64 y.f0.f3, .int .i64 y.f0.f4, .slice Y5 y.f0.f5.length y5, .slice Y6 y.f0.f6.length y6, .slice Y7 y.f0.f7.length y7, .bool y.f0.f8]) rfl (by kernel_rfl) (by kernel_rfl) (by kernel_rfl) (fun _ _ _ h => h) (by kernel_rfl) (fun j_ hj _ h => h.2 hj) (fun _ h => ⟨fun hj => absurd hj (by decide), fun _ => h⟩) (by rfl) (by intro wq hq; have c_0 : wq.cell? ⟨p_, 0, none⟩ = some (.int .i64 y.f0.f0) := hq.cell 0; have c_1 : wq.cell? ⟨p_, 1, none⟩ = some (.int .i64 y.f0.f1) := hq.cell 1; have c_2 : wq.cell? ⟨p_, 2, none⟩ = some (.int .i64 y.f0.f2) := hq.cell 2; have c_3 : wq.cell? ⟨p_, 3, none⟩ = some (.int .u64 y.f0.f3) := hq.cell 3; have c_4 : wq.cell? ⟨p_, 4, none⟩ = some (.int .i64 y.f0.f4) := hq.cell 4; have c_5 : wq.cell? ⟨p_, 5, none⟩ = some (.slice Y5 y.f0.f5.length y5) := hq.cell 5; have c_6 : wq.cell? ⟨p_, 6, none⟩ = some (.slice Y6 y.f0.f6.length y6) := hq.cell 6; have c_7 : wq.cell? ⟨p_, 7, none⟩ = some (.slice Y7 y.f0.f7.length y7) := hq.cell 7; have c_8 : wq.cell? ⟨p_, 8, none⟩ = some (.bool y.f0.f8) := hq.cell 8; go_simp) HY3.out ?_
                  simp only [Act.put, List.setIfInBounds_toArray, List.set_cons_zero, List.set_cons_succ]
                  refine wpAnyP_take' (fun w' => Row w' p_ 111 #[.int .i64 y.f0.f0, .int .i64 y.f0.f1, .int .i64 y.f0.f2, .int .u64 y.f0.f3, .int .i64 y.f0.f4, .slice Y5 y.f0.f5.length y5, .slice Y6 y.f0.f6.length y6, .slice Y7 y.f0.f7.length y7, .bool y.f0.f8, .slice Y9 y.f1.length y9]) (fun j_ => [4, 7, 8, 9].contains j_ || [1, 3, 6, 10].contains j_) 6 (.slice Y9 y.f1.length y9) rfl (by kernel_rfl) (by kernel_rfl) (by kernel_rfl) (fun _ _ _ h => h) (by kernel_rfl) (fun j_ hj _ h => h.2 hj) (fun _ h => ⟨fun hj => absurd hj (by decide), fun _ => h⟩) (by rfl) (by intro wq hq; have c_9 : wq.cell? ⟨p_, 9, none⟩ = some (.slice Y9 y.f1.length y9) := hq.cell 9; go_simp) HY3.out ?_
                  simp only [Act.put, List.setIfInBounds_toArray, List.set_cons_zero, List.set_cons_succ]
                  refine wpAnyP_take' (fun w' => Row w' g 61 #[v0, s1, v2, s3, s4, v5, s6, .int .i64 m.f7, v8, (.slice D_ xs.length d_), (.slice none 0 0)] ∧ Row w' p_ 111 #[.int .i64 y.f0.f0, .int .i64 y.f0.f1, .int .i64 y.f0.f2, .int .u64 y.f0.f3, .int .i64 y.f0.f4, .slice Y5 y.f0.f5.length y5, .slice Y6 y.f0.f6.length y6, .slice Y7 y.f0.f7.length y7, .bool y.f0.f8, .slice Y9 y.f1.length y9]) (fun j_ => [4, 7, 8, 9].contains j_) 1 (.slice D_ xs.length d_) rfl (by kernel_rfl) (by kernel_rfl) (by kernel_rfl) (fun _ _ _ h => h) (by kernel_rfl) (fun j_ hj _ h => ⟨h.1 hj, h.2 (show ([4, 7, 8, 9].contains j_ || [1, 3, 6, 10].contains j_) = true by rw [show ([4, 7, 8, 9].contains j_) = true from hj]; rfl)⟩) (fun _ h => ⟨fun hj => absurd hj (by decide), fun _ => h.2⟩) (by rfl) (by intro wq hq; have c_ : wq.cell? ⟨g, 9, none⟩ = some (.slice D_ xs.length d_) := hq.1.cell 9; go_simp) ⟨HM3.out.row, HY3.out⟩ ?_
                  simp only [Act.put, List.setIfInBounds_toArray, List.set_cons_zero, List.set_cons_succ]
                  refine wpAnyP_one (i := 4) (by kernel_rfl) (wpOp_run (i := 4) rfl (fun K4 hK4 => ?_))
                  go_simp
                  refine (one_copy' y.f0 (HBm.out.t9 _ HMem.out).1 HlY5.out (Kd.C_below HgY5.out HM3.out.low) HlY6.out (Kd.C_below HgY6.out HM3.out.low) HlY7.out (Kd.C_below HgY7.out HM3.out.low)).mono ?_
                  rintro e w4 ⟨E5, e5, E6, e6, E7, e7, rfl, hro, hb_⟩
                  refine hK4.out _ _ ⟨⟨fun _ => (HM3.out.step hb_).row, fun _ => HY3.out.below hb_ HY3.out.lt⟩, ?_⟩
                  have HM4 := Aside0.mk (HM3.out.step hb_)
                  have HY4 := Aside0.mk (HY3.out.below hb_ HY3.out.lt)
                  have HS4 := Aside0.mk hb_.size
                  clear hb_ hK4 K4  HY3
                  simp only [Act.put, List.setIfInBounds_toArray, List.set_cons_zero, List.set_cons_succ]
                  refine wpAnyP_one (i := 7) (by kernel_rfl) (wpOp_run (i := 7) rfl (fun K7 hK7 => ?_))
                  go_simp
                  refine (bytes_copy' y.f1 (HBm.out.t9 _ HMem.out).2 HlY9.out (Kd.C_below HgY9.out HM4.out.low)).mono ?_
                  rintro e w5 ⟨Ei, ei, rfl, hri, hb_⟩
                  refine hK7.out _ _ ⟨⟨fun _ => (HM4.out.step hb_).row, fun _ => HY4.out.below hb_ HY4.out.lt⟩, ?_⟩
                  have HM5 := Aside0.mk (HM4.out.step hb_)
                  have HY5 := Aside0.mk (HY4.out.below hb_ HY4.out.lt)
                  have HS5 := Aside0.mk hb_.size
                  replace hro := Kd.M_below hro hb_
                  replace hri := Kd.R_lower hri HS4.out
                  clear hb_ hK7 K7 HM4 HY4
                  simp only [Act.put, List.setIfInBounds_toArray, List.set_cons_zero, List.set_cons_succ]
                  have hMy : k111.M w5 w.heap.size (fun k_ => some k_ ≠ (Value.slice D_ xs.length d_).ownBlock) y [.int .i64 y.f0.f0, .int .i64 y.f0.f1, .int .i64 y.f0.f2, .int .u64 y.f0.f3, .int .i64 y.f0.f4, .slice E5 y.f0.f5.length e5, .slice E6 y.f0.f6.length e6, .slice E7 y.f0.f7.length e7, .bool y.f0.f8, .slice Ei y.f1.length ei] := k111.M_mono (fun _ hk => hk.2) (k111.M_lower HM3.out.low.size (Kd.M_new (show k111.M w5 w3.heap.size (fun _ => True) y [.int .i64 y.f0.f0, .int .i64 y.f0.f1, .int .i64 y.f0.f2, .int .u64 y.f0.f3, .int .i64 y.f0.f4, .slice E5 y.f0.f5.length e5, .slice E6 y.f0.f6.length e6, .slice E7 y.f0.f7.length e7, .bool y.f0.f8, .slice Ei y.f1.length ei] from ⟨[.int .i64 y.f0.f0, .int .i64 y.f0.f1, .int .i64 y.f0.f2, .int .u64 y.f0.f3, .int .i64 y.f0.f4, .slice E5 y.f0.f5.length e5, .slice E6 y.f0.f6.length e6, .slice E7 y.f0.f7.length e7, .bool y.f0.f8], [.slice Ei y.f1.length ei], rfl, hro, ⟨_, rfl, hri⟩⟩) (Kd.R_own HM3.out.r9).choose_spec))
                  have HMy := Aside0.mk hMy
                  clear hMy hro hri
                  refine wpAnyP_one (i := 8) (by kernel_rfl) (wpOp_run (i := 8) rfl (fun K8 hK8 => ?_))
                  go_simp
                  refine hK8.out _ _ ⟨⟨fun _ => HM5.out.row, fun _ => HY5.out⟩, ?_⟩
                  clear hK8 K8
                  simp only [Act.put, List.setIfInBounds_toArray, List.set_cons_zero, List.set_cons_succ]
                  refine wpAnyP_one (i := 9) (by kernel_rfl) (wpOp_run (i := 9) rfl (fun K9 hK9 => ?_))
                  go_simp
                  refine hK9.out _ _ ⟨⟨fun _ => St.Row.alloc HM5.out.row _, fun _ => St.Row.alloc HY5.out _⟩, ?_⟩
                  clear hK9 K9
                  simp only [Act.put, List.setIfInBounds_toArray, List.set_cons_zero, List.set_cons_succ]
                  refine wpAnyP_one (i := 10) (by kernel_rfl) (wpOp_run (i := 10) rfl (fun K10 hK10 => ?_))
                  refine Kd.R_append_step (W := w5) (w0 := w) k111 w.heap.size (by rfl) (.tmp 117) (.tmp 125) 58 111 (.agg #[.int .i64 0, .int .i64 0, .int .i64 0, .int .u64 0, .int .i64 0, .slice none 0 0, .slice none 0 0, .slice none 0 0, .bool false, .slice none 0 0]) 144 rfl Try.underlying58 (by kernel_rfl) rfl (by decide) (by decide) (.slice D_ xs.length d_) xs y [.int .i64 y.f0.f0, .int .i64 y.f0.f1, .int .i64 y.f0.f2, .int .u64 y.f0.f3, .int .i64 y.f0.f4, .slice E5 y.f0.f5.length e5, .slice E6 y.f0.f6.length e6, .slice E7 y.f0.f7.length e7, .bool y.f0.f8, .slice Ei y.f1.length ei] (fun _ => True) (fun k_ => some k_ ≠ (Value.slice D_ xs.length d_).ownBlock) rfl (by rfl) HMy.out (fun _ hk => ⟨trivial, hk⟩) (fun _ _ => trivial) HM5.out.r9 HM5.out.low HM5.out.low.size (by have e1 := HT.out; have e2 := HBm.out.h9; have e3 := HLt.out; have e4 := congrArg List.length e1; rw [List.length_take] at e4; omega) ?_
                  rintro u_ w6 hR6 hB6 hg6 hat6
                  obtain ⟨U_, e_, rfl⟩ := Kd.R_slice hR6
                  rw [List.length_append, List.length_singleton] at hR6 ⊢
                  refine hK10.out _ _ ⟨⟨fun hj => absurd hj (by decide), fun _ => HY5.out.grown hg6 HNe.out⟩, ?_⟩
                  have HM6 := Aside0.mk (HM5.out.app9 hR6 hg6)
                  have r6 := HM5.out.row.grown hg6 (fun e => Kd.R_ne HM5.out.r9 HM5.out.row (by decide) e.symm)
                  have q6 : w6.cell? ⟨g, 9, none⟩ = some (.slice D_ xs.length d_) := r6.cell 9
                  have z6 := r6.frozen 9
                  clear hK10 K10 hR6 hB6 hg6 hat6 r6
                  simp only [Act.put, List.setIfInBounds_toArray, List.set_cons_zero, List.set_cons_succ]
                  refine wpAnyP_one (i := 11) (by kernel_rfl) (wpOp_run (i := 11) rfl (fun K11 hK11 => ?_))
                  go_simp
                  refine hK11.out _ _ ⟨⟨fun hj => absurd hj (by decide), fun hj => absurd hj (by decide)⟩, ?_⟩
                  clear hK11 K11
                  simp only [Act.put, List.setIfInBounds_toArray, List.set_cons_zero, List.set_cons_succ]
                  refine wpAnyP_one (i := 12) (by kernel_rfl) (wpOp_run (i := 12) rfl (fun K12 hK12 => ?_))
                  go_simp
                  refine hK12.out _ _ ⟨⟨fun hj => absurd hj (by decide), fun hj => absurd hj (by decide)⟩, ?_⟩
                  clear hK12 K12 q6 z6
                  simp only [Act.put, List.setIfInBounds_toArray, List.set_cons_zero, List.set_cons_succ]
                  refine wpAnyP_done (by kernel_rfl) ?_ _
                  go_wp2_with fail
                  go_roundg (m.f9.length - (k + 1).toNat)
                  case measure => omega
                  case rel => exact ⟨k + 1, xs ++ [y], _, by first | rfl | (simp; done) | (simp [*]; done), ⟨⟨by omega, by omega⟩⟩, ⟨by rw [HT.out]; exact HTk.out⟩, HM6⟩
                · have d0 : decide (k < (m.f9.length : Int)) = false := decide_eq_false hlt
                  go_wp2_with fail
                  go_meet
                  case rel =>
                    have e1 : xs = m.f9 := by rw [HT.out, List.take_of_length_le (by omega)]
                    subst e1
                    exact ⟨v9, HM⟩
            case rest =>
              clear HM
              obtain ⟨v9, HM⟩ := hcut
              have xb : wc.cell? ⟨w.heap.size, 10, none⟩ = some (.slice A10 m.f10.length c10) := HM.out.box.cell 10
              go_upto_block 10 with (fail)
              clear xb
              go_cut [] from 4 to 148 (fun wd10 => ∃ v10 : Value, Aside0 (Mv w wd10 g #[.slice A0 m.f0.length c0, .slice A1 m.f1.length c1, .slice A2 m.f2.length c2, .slice A3 m.f3.length c3, .slice A4 m.f4.length c4, .slice A5 m.f5.length c5, .slice A6 m.f6.length c6, .int .i64 m.f7, .slice A8 m.f8.length c8, .slice A9 m.f9.length c9, .slice A10 m.f10.length c10] ⟨m.f0, m.f1, m.f2, m.f3, m.f4, m.f5, m.f6, m.f7, m.f8, m.f9, m.f10⟩ v0 s1 v2 s3 s4 v5 s6 v8 v9 v10))
              case first =>
                go_wp2_with fail
                go_loopg [132] m.f10.length (fun q_ v_ w_ => ∃ (k : Int) (xs : List _) (v10 : Value), v_ = .int .i64 k ∧ Aside0 (0 ≤ k ∧ (q_ : Int) + k = m.f10.length) ∧ Aside0 (xs = m.f10.take k.toNat) ∧ Aside0 (Mv w w_ g #[.slice A0 m.f0.length c0, .slice A1 m.f1.length c1, .slice A2 m.f2.length c2, .slice A3 m.f3.length c3, .slice A4 m.f4.length c4, .slice A5 m.f5.length c5, .slice A6 m.f6.length c6, .int .i64 m.f7, .slice A8 m.f8.length c8, .slice A9 m.f9.length c9, .slice A10 m.f10.length c10] ⟨m.f0, m.f1, m.f2, m.f3, m.f4, m.f5, m.f6, m.f7, m.f8, m.f9, xs⟩ v0 s1 v2 s3 s4 v5 s6 v8 v9 v10))
                case atStart => exact ⟨0, [], .slice none 0 0, rfl, ⟨⟨Int.le_refl _, by omega⟩⟩, ⟨rfl⟩, HM⟩
                case round =>
                  clear HM
                  obtain ⟨k, xs, v10, rfl, HK, HT, HM⟩ := hrel
                  have hk0 := HK.out.1
                  have hk1 := HK.out.2
                  by_cases hlt : k < (m.f10.length : Int)
                  · have d0 : decide (k < (m.f10.length : Int)) = true := decide_eq_true hlt
                    have d1 : decide (0 ≤ k) = true := decide_eq_true hk0
                    obtain ⟨ad, Y1, y1, eA, q0, q1, lY1, gY1⟩ := at_T121 G10.out k hk0 hlt
                    cases eA
                    have hmem : rd_T121 m.f10 k ∈ m.f10 := getD_mem_ m.f10 _ k hk0 hlt
                    have htk : m.f10.take k.toNat ++ [rd_T121 m.f10 k] = m.f10.take (k + 1).toNat := take_next m.f10 _ k hk0 hlt
                    generalize rd_T121 m.f10 k = y at *
                    replace q0 := (HM.out.low.cell (World.block_lt_of_cell? w _ q0)).trans q0
                    replace q1 := (HM.out.low.cell (World.block_lt_of_cell? w _ q1)).trans q1
                    have HlY1 := Aside0.mk lY1
                    have HgY1 := Aside0.mk gY1
                    have HMem := Aside0.mk hmem; have HTk := Aside0.mk htk; have HLt := Aside0.mk hlt
                    have ew : IntKind.i64.wrap (k + 1) = k + 1 := by have := HBm.out.h10; rw [IntKind.wrap_i64]; omega
                    clear hmem htk lY1 gY1
                    obtain ⟨D_, d_, eD⟩ := Kd.R_slice HM.out.r10
                    change _ = Value.slice D_ xs.length d_ at eD
                    subst eD
                    go_upto_region 30 with fail
                    obtain ⟨p_, hp_⟩ : ∃ p_, p_ = wr.heap.size := ⟨_, rfl⟩
                    obtain ⟨w3, hw3⟩ : ∃ w3, w3 = (wr.alloc (.cells #[.string y.f0, .slice Y1 y.f1.length y1] 121)).drew := ⟨_, rfl⟩
                    have hY3 : Row w3 p_ 121 #[.string y.f0, .slice Y1 y.f1.length y1] := by rw [hw3, hp_]; exact St.Row.made wr 121 #[.string y.f0, .slice Y1 y.f1.length y1] rfl
                    have hM3 : Mv w w3 g #[.slice A0 m.f0.length c0, .slice A1 m.f1.length c1, .slice A2 m.f2.length c2, .slice A3 m.f3.length c3, .slice A4 m.f4.length c4, .slice A5 m.f5.length c5, .slice A6 m.f6.length c6, .int .i64 m.f7, .slice A8 m.f8.length c8, .slice A9 m.f9.length c9, .slice (some ad) m.f10.length c10] ⟨m.f0, m.f1, m.f2, m.f3, m.f4, m.f5, m.f6, m.f7, m.f8, m.f9, xs⟩ v0 s1 v2 s3 s4 v5 s6 v8 v9 (.slice D_ xs.length d_) := by rw [hw3]; exact (HM.out.step (below_alloc (Below.refl _ _) _)).drew
                    have HNe := Aside0.mk (show (Value.slice D_ xs.length d_).ownBlock ≠ some p_ from fun e => by have := Kd.R_lt HM.out.r10 p_ e; omega)
                    refine wp_region_heldP (fun j_ w' => ([6, 7, 8].contains j_ = true → Row w' g 61 #[v0, s1, v2, s3, s4, v5, s6, .int .i64 m.f7, v8, v9, (.slice D_ xs.length d_)]) ∧ (([6, 7, 8].contains j_ || [1, 3, 5, 9].contains j_) = true → Row w' p_ 121 #[.string y.f0, .slice Y1 y.f1.length y1])) (by kernel_rfl) ?_
                    rw [← hp_, ← hw3]
                    clear hw3 hp_
                    simp only [List.size_toArray, List.length_cons, List.length_nil, Nat.zero_add, Nat.reduceAdd, Array.replicate, List.replicate]
                    have HM3 := Aside0.mk hM3; have HY3 := Aside0.mk hY3
                    clear hM3 hY3 HM q0 q1
                    refine wpAnyP_take' (fun _ => True) (fun _ => true) 0 (.pointer (some ⟨g, 10, none⟩)) rfl (by kernel_rfl) (by kernel_rfl) (by kernel_rfl) (fun _ _ _ h => h) (by kernel_rfl) (fun _ _ _ _ => trivial) (fun _ _ => ⟨fun hj => absurd hj (by decide), fun hj => absurd hj (by decide)⟩) (by rfl) (by intro wq _; go_simp) trivial ?_
                    simp only [Act.put, List.setIfInBounds_toArray, List.set_cons_zero, List.set_cons_succ]
                    refine wpAnyP_take' (fun _ => True) (fun _ => true) 2 (.pointer (some ⟨p_, 0, none⟩)) rfl (by kernel_rfl) (by kernel_rfl) (by kernel_rfl) (fun _ _ _ h => h) (by kernel_rfl) (fun _ _ _ _ => trivial) (fun _ _ => ⟨fun hj => absurd hj (by decide), fun hj => absurd hj (by decide)⟩) (by rfl) (by intro wq _; go_simp) trivial ?_
                    simp only [Act.put, List.setIfInBounds_toArray, List.set_cons_zero, List.set_cons_succ]
                    refine wpAnyP_take' (fun _ => True) (fun _ => true) 4 (.pointer (some ⟨p_, 1, none⟩)) rfl (by kernel_rfl) (by kernel_rfl) (by kernel_rfl) (fun _ _ _ h => h) (by kernel_rfl) (fun _ _ _ _ => trivial) (fun _ _ => ⟨fun hj => absurd hj (by decide), fun hj => absurd hj (by decide)⟩) (by rfl) (by intro wq _; go_simp) trivial ?_
                    simp only [Act.put, List.setIfInBounds_toArray, List.set_cons_zero, List.set_cons_succ]
                    refine wpAnyP_take' (fun w' => Row w' p_ 121 #[.string y.f0, .slice Y1 y.f1.length y1]) (fun j_ => [6, 7, 8].contains j_ || [1, 3, 5, 9].contains j_) 3 (.string y.f0) rfl (by kernel_rfl) (by kernel_rfl) (by kernel_rfl) (fun _ _ _ h => h) (by kernel_rfl) (fun j_ hj _ h => h.2 hj) (fun _ h => ⟨fun hj => absurd hj (by decide), fun _ => h⟩) (by rfl) (by intro wq hq; have c_0 : wq.cell? ⟨p_, 0, none⟩ = some (.string y.f0) := hq.cell 0; go_simp) HY3.out ?_
                    simp only [Act.put, List.setIfInBounds_toArray, List.set_cons_zero, List.set_cons_succ]
                    refine wpAnyP_take' (fun w' => Row w' p_ 121 #[.string y.f0, .slice Y1 y.f1.length y1]) (fun j_ => [6, 7, 8].contains j_ || [1, 3, 5, 9].contains j_) 5 (.slice Y1 y.f1.length y1) rfl (by kernel_rfl) (by kernel_rfl) (by kernel_rfl) (fun _ _ _ h => h) (by kernel_rfl) (fun j_ hj _ h => h.2 hj) (fun _ h => ⟨fun hj => absurd hj (by decide), fun _ => h⟩) (by rfl) (by intro wq hq; have c_1 : wq.cell? ⟨p_, 1, none⟩ = some (.slice Y1 y.f1.length y1) := hq.cell 1; go_simp) HY3.out ?_
                    simp only [Act.put, List.setIfInBounds_toArray, List.set_cons_zero, List.set_cons_succ]
                    refine wpAnyP_take' (fun w' => Row w' g 61 #[v0, s1, v2, s3, s4, v5, s6, .int .i64 m.f7, v8, v9, (.slice D_ xs.length d_)] ∧ Row w' p_ 121 #[.string y.f0, .slice Y1 y.f1.length y1]) (fun j_ => [6, 7, 8].contains j_) 1 (.slice D_ xs.length d_) rfl (by kernel_rfl) (by kernel_rfl) (by kernel_rfl) (fun _ _ _ h => h) (by kernel_rfl) (fun j_ hj _ h => ⟨h.1 hj, h.2 (show ([6, 7, 8].contains j_ || [1, 3, 5, 9].contains j_) = true by rw [show ([6, 7, 8].contains j_) = true from hj]; rfl)⟩) (fun _ h => ⟨fun hj => absurd hj (by decide), fun _ => h.2⟩) (by rfl) (by intro wq hq; have c_ : wq.cell? ⟨g, 10, none⟩ = some (.slice D_ xs.length d_) := hq.1.cell 10; go_simp) ⟨HM3.out.row, HY3.out⟩ ?_
                    simp only [Act.put, List.setIfInBounds_toArray, List.set_cons_zero, List.set_cons_succ]
                    refine wpAnyP_one (i := 6) (by kernel_rfl) (wpOp_run (i := 6) rfl (fun K6 hK6 => ?_))
                    go_simp
                    refine (bytes_copy' y.f1 (HBm.out.t10 _ HMem.out) HlY1.out (Kd.C_below HgY1.out HM3.out.low)).mono ?_
                    rintro e w4 ⟨Ei, ei, rfl, hri, hb_⟩
                    refine hK6.out _ _ ⟨⟨fun _ => (HM3.out.step hb_).row, fun _ => HY3.out.below hb_ HY3.out.lt⟩, ?_⟩
                    have HM4 := Aside0.mk (HM3.out.step hb_)
                    have HY4 := Aside0.mk (HY3.out.below hb_ HY3.out.lt)
                    have HS4 := Aside0.mk hb_.size
                    clear hb_ hK6 K6  HY3
                    simp only [Act.put, List.setIfInBounds_toArray, List.set_cons_zero, List.set_cons_succ]
                    have hMy : k121.M w4 w.heap.size (fun k_ => some k_ ≠ (Value.slice D_ xs.length d_).ownBlock) y [.string y.f0, .slice Ei y.f1.length ei] := k121.M_mono (fun _ hk => hk.2) (k121.M_lower HM3.out.low.size (Kd.M_new (k121_mkM _ _ _ y hri) (Kd.R_own HM3.out.r10).choose_spec))
                    have HMy := Aside0.mk hMy
                    clear hMy hri
                    refine wpAnyP_one (i := 7) (by kernel_rfl) (wpOp_run (i := 7) rfl (fun K7 hK7 => ?_))
                    go_simp
                    refine hK7.out _ _ ⟨⟨fun _ => HM4.out.row, fun _ => HY4.out⟩, ?_⟩
                    clear hK7 K7
                    simp only [Act.put, List.setIfInBounds_toArray, List.set_cons_zero, List.set_cons_succ]
                    refine wpAnyP_one (i := 8) (by kernel_rfl) (wpOp_run (i := 8) rfl (fun K8 hK8 => ?_))
                    go_simp
                    refine hK8.out _ _ ⟨⟨fun _ => St.Row.alloc HM4.out.row _, fun _ => St.Row.alloc HY4.out _⟩, ?_⟩
                    clear hK8 K8
                    simp only [Act.put, List.setIfInBounds_toArray, List.set_cons_zero, List.set_cons_succ]
                    refine wpAnyP_one (i := 9) (by kernel_rfl) (wpOp_run (i := 9) rfl (fun K9 hK9 => ?_))
                    refine Kd.R_append_step (W := w4) (w0 := w) k121 w.heap.size (by rfl) (.tmp 137) (.tmp 144) 59 121 (.agg #[.string ⟨#[]⟩, .slice none 0 0]) 40 rfl Try.underlying59 (by kernel_rfl) rfl (by decide) (by decide) (.slice D_ xs.length d_) xs y [.string y.f0, .slice Ei y.f1.length ei] (fun _ => True) (fun k_ => some k_ ≠ (Value.slice D_ xs.length d_).ownBlock) rfl (by rfl) HMy.out (fun _ hk => ⟨trivial, hk⟩) (fun _ _ => trivial) HM4.out.r10 HM4.out.low HM4.out.low.size (by have e1 := HT.out; have e2 := HBm.out.h10; have e3 := HLt.out; have e4 := congrArg List.length e1; rw [List.length_take] at e4; omega) ?_
                    rintro u_ w6 hR6 hB6 hg6 hat6
                    obtain ⟨U_, e_, rfl⟩ := Kd.R_slice hR6
                    rw [List.length_append, List.length_singleton] at hR6 ⊢
                    refine hK9.out _ _ ⟨⟨fun hj => absurd hj (by decide), fun _ => HY4.out.grown hg6 HNe.out⟩, ?_⟩
                    have HM6 := Aside0.mk (HM4.out.app10 hR6 hg6)
                    have r6 := HM4.out.row.grown hg6 (fun e => Kd.R_ne HM4.out.r10 HM4.out.row (by decide) e.symm)
                    have q6 : w6.cell? ⟨g, 10, none⟩ = some (.slice D_ xs.length d_) := r6.cell 10
                    have z6 := r6.frozen 10
                    clear hK9 K9 hR6 hB6 hg6 hat6 r6
                    simp only [Act.put, List.setIfInBounds_toArray, List.set_cons_zero, List.set_cons_succ]
                    refine wpAnyP_one (i := 10) (by kernel_rfl) (wpOp_run (i := 10) rfl (fun K10 hK10 => ?_))
                    go_simp
                    refine hK10.out _ _ ⟨⟨fun hj => absurd hj (by decide), fun hj => absurd hj (by decide)⟩, ?_⟩
                    clear hK10 K10
                    simp only [Act.put, List.setIfInBounds_toArray, List.set_cons_zero, List.set_cons_succ]
                    refine wpAnyP_one (i := 11) (by kernel_rfl) (wpOp_run (i := 11) rfl (fun K11 hK11 => ?_))
                    go_simp
                    refine hK11.out _ _ ⟨⟨fun hj => absurd hj (by decide), fun hj => absurd hj (by decide)⟩, ?_⟩
                    clear hK11 K11 q6 z6
                    simp only [Act.put, List.setIfInBounds_toArray, List.set_cons_zero, List.set_cons_succ]
                    refine wpAnyP_done (by kernel_rfl) ?_ _
                    go_wp2_with fail
                    go_roundg (m.f10.length - (k + 1).toNat)
                    case measure => omega
                    case rel => exact ⟨k + 1, xs ++ [y], _, by first | rfl | (simp; done) | (simp [*]; done), ⟨⟨by omega, by omega⟩⟩, ⟨by rw [HT.out]; exact HTk.out⟩, HM6⟩
                  · have d0 : decide (k < (m.f10.length : Int)) = false := decide_eq_false hlt
                    go_wp2_with fail
                    go_meet
                    case rel =>
                      have e1 : xs = m.f10 := by rw [HT.out, List.take_of_length_le (by omega)]
                      subst e1
                      exact ⟨v10, HM⟩
              case rest =>
                clear HM
                obtain ⟨v10, HM⟩ := hcut
                obtain ⟨D0, d0, e0⟩ := Kd.R_slice HM.out.r0; change _ = Value.slice D0 m.f0.length d0 at e0; subst e0
                obtain ⟨D1, d1, e1⟩ := Kd.R_slice HM.out.r1; change _ = Value.slice D1 m.f1.length d1 at e1; subst e1
                obtain ⟨D2, d2, e2⟩ := Kd.R_slice HM.out.r2; change _ = Value.slice D2 m.f2.length d2 at e2; subst e2
                obtain ⟨D3, d3, e3⟩ := Kd.R_slice HM.out.r3; change _ = Value.slice D3 m.f3.length d3 at e3; subst e3
                obtain ⟨D4, d4, e4⟩ := Kd.R_slice HM.out.r4; change _ = Value.slice D4 m.f4.length d4 at e4; subst e4
                obtain ⟨D5, d5, e5⟩ := Kd.R_slice HM.out.r5; change _ = Value.slice D5 m.f5.length d5 at e5; subst e5
                obtain ⟨D6, d6, e6⟩ := Kd.R_slice HM.out.r6; change _ = Value.slice D6 m.f6.length d6 at e6; subst e6
                obtain ⟨D8, d8, e8⟩ := Kd.R_slice HM.out.r8; change _ = Value.slice D8 m.f8.length d8 at e8; subst e8
                obtain ⟨D9, d9, e9⟩ := Kd.R_slice HM.out.r9; change _ = Value.slice D9 m.f9.length d9 at e9; subst e9
                obtain ⟨D10, d10, e10⟩ := Kd.R_slice HM.out.r10; change _ = Value.slice D10 m.f10.length d10 at e10; subst e10
                have x0 : wc.cell? ⟨g, 0, none⟩ = some (.slice D0 m.f0.length d0) := HM.out.row.cell 0; have y0 : wc.cell? ⟨w.heap.size + 1, 0, none⟩ = some (.slice none 0 0) := HM.out.res.cell 0; have z0 := HM.out.res.frozen 0
                have x1 : wc.cell? ⟨g, 1, none⟩ = some (.slice D1 m.f1.length d1) := HM.out.row.cell 1; have y1 : wc.cell? ⟨w.heap.size + 1, 1, none⟩ = some (.slice none 0 0) := HM.out.res.cell 1; have z1 := HM.out.res.frozen 1
                have x2 : wc.cell? ⟨g, 2, none⟩ = some (.slice D2 m.f2.length d2) := HM.out.row.cell 2; have y2 : wc.cell? ⟨w.heap.size + 1, 2, none⟩ = some (.slice none 0 0) := HM.out.res.cell 2; have z2 := HM.out.res.frozen 2
                have x3 : wc.cell? ⟨g, 3, none⟩ = some (.slice D3 m.f3.length d3) := HM.out.row.cell 3; have y3 : wc.cell? ⟨w.heap.size + 1, 3, none⟩ = some (.slice none 0 0) := HM.out.res.cell 3; have z3 := HM.out.res.frozen 3
                have x4 : wc.cell? ⟨g, 4, none⟩ = some (.slice D4 m.f4.length d4) := HM.out.row.cell 4; have y4 : wc.cell? ⟨w.heap.size + 1, 4, none⟩ = some (.slice none 0 0) := HM.out.res.cell 4; have z4 := HM.out.res.frozen 4
                have x5 : wc.cell? ⟨g, 5, none⟩ = some (.slice D5 m.f5.length d5) := HM.out.row.cell 5; have y5 : wc.cell? ⟨w.heap.size + 1, 5, none⟩ = some (.slice none 0 0) := HM.out.res.cell 5; have z5 := HM.out.res.frozen 5
                have x6 : wc.cell? ⟨g, 6, none⟩ = some (.slice D6 m.f6.length d6) := HM.out.row.cell 6; have y6 : wc.cell? ⟨w.heap.size + 1, 6, none⟩ = some (.slice none 0 0) := HM.out.res.cell 6; have z6 := HM.out.res.frozen 6
                have x7 : wc.cell? ⟨g, 7, none⟩ = some (.int .i64 m.f7) := HM.out.row.cell 7; have y7 : wc.cell? ⟨w.heap.size + 1, 7, none⟩ = some (.int .i64 0) := HM.out.res.cell 7; have z7 := HM.out.res.frozen 7
                have x8 : wc.cell? ⟨g, 8, none⟩ = some (.slice D8 m.f8.length d8) := HM.out.row.cell 8; have y8 : wc.cell? ⟨w.heap.size + 1, 8, none⟩ = some (.slice none 0 0) := HM.out.res.cell 8; have z8 := HM.out.res.frozen 8
                have x9 : wc.cell? ⟨g, 9, none⟩ = some (.slice D9 m.f9.length d9) := HM.out.row.cell 9; have y9 : wc.cell? ⟨w.heap.size + 1, 9, none⟩ = some (.slice none 0 0) := HM.out.res.cell 9; have z9 := HM.out.res.frozen 9
                have x10 : wc.cell? ⟨g, 10, none⟩ = some (.slice D10 m.f10.length d10) := HM.out.row.cell 10; have y10 : wc.cell? ⟨w.heap.size + 1, 10, none⟩ = some (.slice none 0 0) := HM.out.res.cell 10; have z10 := HM.out.res.frozen 10
                obtain ⟨r9, b9, m9⟩ := HM.out.last
                clear HM
                go_wp2_with fail
                change bodyPost _ _ _ _ _ (put11 wc (w.heap.size + 1) (.slice D0 m.f0.length d0) (.slice D1 m.f1.length d1) (.slice D2 m.f2.length d2) (.slice D3 m.f3.length d3) (.slice D4 m.f4.length d4) (.slice D5 m.f5.length d5) (.slice D6 m.f6.length d6) (.int .i64 m.f7) (.slice D8 m.f8.length d8) (.slice D9 m.f9.length d9) (.slice D10 m.f10.length d10))
                clear x0 y0 z0 x1 y1 z1 x2 y2 z2 x3 y3 z3 x4 y4 z4 x5 y5 z5 x6 y6 z6 x7 y7 z7 x8 y8 z8 x9 y9 z9 x10 y10 z10
                generalize put11 wc (w.heap.size + 1) (.slice D0 m.f0.length d0) (.slice D1 m.f1.length d1) (.slice D2 m.f2.length d2) (.slice D3 m.f3.length d3) (.slice D4 m.f4.length d4) (.slice D5 m.f5.length d5) (.slice D6 m.f6.length d6) (.int .i64 m.f7) (.slice D8 m.f8.length d8) (.slice D9 m.f9.length d9) (.slice D10 m.f10.length d10) = wz at r9 b9 m9 ⊢
                refine bodyPost_ret (results_cell_row (cs := #[.slice D0 m.f0.length d0, .slice D1 m.f1.length d1, .slice D2 m.f2.length d2, .slice D3 m.f3.length d3, .slice D4 m.f4.length d4, .slice D5 m.f5.length d5, .slice D6 m.f6.length d6, .int .i64 m.f7, .slice D8 m.f8.length d8, .slice D9 m.f9.length d9, .slice D10 m.f10.length d10]) rfl _ _ (w.heap.size + 1) 61 _ _ rfl r9 Try.underlying61 rfl (by kernel_rfl)) rfl ?_
                exact ⟨[.slice D0 m.f0.length d0, .slice D1 m.f1.length d1, .slice D2 m.f2.length d2, .slice D3 m.f3.length d3, .slice D4 m.f4.length d4, .slice D5 m.f5.length d5, .slice D6 m.f6.length d6, .int .i64 m.f7, .slice D8 m.f8.length d8, .slice D9 m.f9.length d9, .slice D10 m.f10.length d10], rfl, m9, b9⟩
end Go.Proofs.Ytbelijoggbblgaa.Ex
