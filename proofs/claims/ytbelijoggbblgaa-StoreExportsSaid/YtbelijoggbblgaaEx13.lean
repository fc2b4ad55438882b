/- Export of a store that has one instance: what it exports under a name, or that it does not. Printed by the program mkex13.py. -/
import Derived.Test.YtbelijoggbblgaaEx12
namespace Go.Proofs.Ytbelijoggbblgaa.Ex
open Go.RowKit Go.Proofs.YtbelijoggbblgaaW.PrintWords Go.Proofs.YtbelijoggbblgaaW.PrintLast Go.Proofs.Ytbelijoggbblgaa.RStoreExports Go.Proofs.Ytbelijoggbblgaa.Man
set_option linter.unusedVariables false
set_option linter.unusedSimpArgs false
/-- What an instance has of a kind. -/
def listOf (x : S64) (k : Int) : List Int := if k = 0 then x.f1 else if k = 1 then x.f2 else if k = 2 then x.f3 else if k = 3 then x.f4 else []
/-- What is told of an export e of the instance x. -/
def Tells (x : S64) (e : S74) (k a : Int) (is : Bool) : Prop :=
  (¬ (0 ≤ e.f2 ∧ e.f2 < (listOf x e.f1).length) ∧ k = 0 ∧ a = 0 ∧ is = false) ∨ (0 ≤ e.f2 ∧ e.f2 < (listOf x e.f1).length ∧ k = e.f1 ∧ a = rd (listOf x e.f1) e.f2 ∧ is = true)
/-- What is told under a name. -/
def TellsN (x : S64) (name : ByteArray) (k a : Int) (is : Bool) : Prop := ∃ j : Int, First x.f0.f6 name j ∧ ((j = -1 ∧ k = 0 ∧ a = 0 ∧ is = false) ∨ (0 ≤ j ∧ Tells x (rd_T74 x.f0.f6 j) k a is))
def exp.T20 : Bool × List (List Nat × List Nat) := (true, [([], []), ([0], [0]), ([], []), ([], []), ([3], [3]), ([2, 4], [2, 4]), ([5], [5]), ([1, 6], [1, 6]), ([7, 0, 1, 2, 3, 4, 5, 6, 7], [7]), ([8, 0, 1, 2, 3, 4, 5, 6, 7, 8], [])])
def exp.B20 : List Nat := [0, 1, 0, 0, 8, 28, 60, 127, 255, 511]
theorem exp.tab20 : rtab .any (opsOf Try.f17 20) = exp.T20 := by kernel_rfl
theorem exp.bits20 : waitsOk exp.T20.2 exp.B20 = true := by kernel_rfl
set_option maxHeartbeats 4000000 in
set_option maxRecDepth 100000 in
theorem exp_no {w : World} {s : Nat} {U : Option Addr} {e_ : Nat} (hs : Row w s 90 #[.slice none 0 0, .slice none 0 0, .slice none 0 0, .slice none 0 0, .slice U 1 e_]) (i : Int) (hi : i ≠ 0) (name : ByteArray) :
    Calls Try.prog 17 #[.pointer (some ⟨s, 0, none⟩), .int .i64 i, .string name] w fun e w' => e = .returned (.tuple #[.agg #[.int .i64 0, .int .i64 0], .bool false]) ∧ Below w.heap.size w w' := by
  have hv : (decide (0 ≤ i) && decide (i < ((1 : Nat) : Int))) = false := by
    rw [Bool.and_eq_false_iff]
    rcases Int.lt_or_le i 0 with h | h
    · exact .inl (decide_eq_false (by omega))
    · exact .inr (decide_eq_false (by omega))
  have HV := Aside0.mk hv
  clear hv hi
  obtain ⟨w1, hw1⟩ : ∃ w1, w1 = w.alloc (.cells #[.string name] 9) := ⟨_, rfl⟩
  have hs1 : w1.heap.size = w.heap.size + 1 := by rw [hw1]; simp
  obtain ⟨w2, hw2⟩ : ∃ w2, w2 = w1.alloc (.cells #[.int .i64 0, .int .i64 0] 67) := ⟨_, rfl⟩
  have HB := Aside0.mk (show Below w.heap.size w w2 by rw [hw2, hw1]; exact below_alloc (below_alloc (Below.refl _ _) _) _)
  have HN := Aside0.mk (show Row w2 w.heap.size 9 #[.string name] by rw [hw2, hw1]; exact St.Row.alloc (St.Row.made _ _ _ rfl) _)
  have HZ := Aside0.mk (show Row w2 (w.heap.size + 1) 67 #[.int .i64 0, .int .i64 0] by rw [hw2]; exact St.Row.made _ _ _ hs1.symm)
  have HR := Aside0.mk (show Row w2 s 90 #[.slice none 0 0, .slice none 0 0, .slice none 0 0, .slice none 0 0, .slice U 1 e_] by rw [hw2, hw1]; exact St.Row.alloc (St.Row.alloc hs _) _)
  have HL := Aside0.mk hs.lt
  have HS2 := Aside0.mk (show w2.heap.size = w.heap.size + 2 by rw [hw2]; simp [hs1])
  have HW1 := Aside0.mk hw1; have HW2 := Aside0.mk hw2; have HS1 := Aside0.mk hs1
  clear hs hw1 hw2 hs1
  refine enterF [.pointer (some ⟨s, 0, none⟩), .int .i64 i, .string name] Try.func17 rfl Try.ntmps17 (Nat.le_of_ble_eq_true rfl) ?_
  intro b HF
  refine wp_seq ?_
  refine wp_region_lit ?_
  refine listM rfl HF rfl (by decide) (v := .pointer (some ⟨w.heap.size, 0, none⟩)) (w1 := w1) (by have e2 : b.tmps[2]?.getD undef = .string name := HF.at rfl; rw [HW1.out]; go_simp) ?_
  clear HF b
  intro b HF
  refine listM rfl HF rfl (by decide) (v := .pointer (some ⟨w.heap.size + 1, 0, none⟩)) (w1 := w2) (by rw [HW2.out]; go_simp; exact HS1.out) ?_
  clear HF b
  intro b HF
  refine listF rfl HF rfl (by decide) (v := .bool false) (by go_simp) ?_
  clear HF b
  intro b HF
  show Code.wp _ _ _ _ _
  refine wp_seq ?_
  refine wp_seq ?_
  refine wp_region_lit ?_
  replace HF := HF.sub [(7, .bool false), (6, .pointer (some ⟨w.heap.size + 1, 0, none⟩)), (5, .pointer (some ⟨w.heap.size, 0, none⟩)), (2, .string name), (1, .int .i64 i), (0, .pointer (some ⟨s, 0, none⟩))] (List.forall_mem_cons.2 ⟨rfl, (List.forall_mem_cons.2 ⟨rfl, (List.forall_mem_cons.2 ⟨rfl, (List.forall_mem_cons.2 ⟨rfl, (List.forall_mem_cons.2 ⟨rfl, (List.forall_mem_cons.2 ⟨rfl, by intro p_ hp_; cases hp_⟩)⟩)⟩)⟩)⟩)⟩)
  have q4 : w2.cell? ⟨s, 4, none⟩ = some (.slice U 1 e_) := HR.out.cell 4
  clear HW1 HW2 HS1
  refine listF rfl HF rfl (by decide) (v := .pointer (some ⟨s, 0, none⟩)) (by have e0 : b.tmps[0]?.getD undef = .pointer (some ⟨s, 0, none⟩) := HF.at rfl; go_simp) ?_
  clear HF b
  intro b HF
  refine listF rfl HF rfl (by decide) (v := .pointer (some ⟨s, 0, none⟩)) (by have e12 : b.tmps[12]?.getD undef = .pointer (some ⟨s, 0, none⟩) := HF.at rfl; go_simp) ?_
  clear HF b
  intro b HF
  refine listF rfl HF rfl (by decide) (v := .pointer (some ⟨s, 4, none⟩)) (by have e13 : b.tmps[13]?.getD undef = .pointer (some ⟨s, 0, none⟩) := HF.at rfl; go_simp) ?_
  clear HF b
  intro b HF
  refine listF rfl HF rfl (by decide) (v := .slice U 1 e_) (by have e14 : b.tmps[14]?.getD undef = .pointer (some ⟨s, 4, none⟩) := HF.at rfl; go_simp) ?_
  clear HF b
  intro b HF
  refine listF rfl HF rfl (by decide) (v := .int .i64 i) (by have e1 : b.tmps[1]?.getD undef = .int .i64 i := HF.at rfl; go_simp) ?_
  clear HF b
  intro b HF
  refine listC rfl HF rfl (by decide) (fun K_ hK_ => ?_)
  have e15 : b.tmps[15]?.getD undef = .slice U 1 e_ := HF.at rfl
  have e16 : b.tmps[16]?.getD undef = .int .i64 i := HF.at rfl
  go_simp
  refine (has_calls w2 U 1 e_ i).mono ?_
  rintro e wz ⟨rfl, hwz⟩
  rw [hwz, HV.out]
  clear hwz wz
  refine hK_.out _ _ ?_
  clear hK_ K_ e15 e16 HF b
  intro b HF
  refine listF rfl HF rfl (by decide) (v := .bool true) (by have e17 : b.tmps[17]?.getD undef = .bool false := HF.at rfl; go_simp) ?_
  clear HF b
  intro b HF
  show Code.wp _ _ _ _ _
  refine wp_cond_true (HF.get rfl) ?_
  refine wp_seq ?_
  refine wp_region_lit ?_
  clear q4
  refine listF rfl HF rfl (by decide) (v := .agg #[.int .i64 0, .int .i64 0]) (by go_simp) ?_
  clear HF b
  intro b HF
  have y0 : w2.cell? ⟨w.heap.size + 1, 0, none⟩ = some (.int .i64 0) := HZ.out.cell 0; have z0 := HZ.out.frozen 0
  have y1 : w2.cell? ⟨w.heap.size + 1, 1, none⟩ = some (.int .i64 0) := HZ.out.cell 1; have z1 := HZ.out.frozen 1
  refine listS (w1 := (w2.setCell ⟨w.heap.size + 1, 0, none⟩ (.int .i64 0)).setCell ⟨w.heap.size + 1, 1, none⟩ (.int .i64 0)) rfl HF rfl (by have e19 : b.tmps[19]?.getD undef = .agg #[.int .i64 0, .int .i64 0] := HF.at rfl; have e6 : b.tmps[6]?.getD undef = .pointer (some ⟨w.heap.size + 1, 0, none⟩) := HF.at rfl; go_simp) ?_
  have HR9 := Aside0.mk ((HZ.out.put_ 0 (.int .i64 0)).put_ 1 (.int .i64 0))
  have HB9 := Aside0.mk ((HB.out.setCell (p := ⟨w.heap.size + 1, 0, none⟩) (Nat.le_succ _) (.int .i64 0)).setCell (p := ⟨w.heap.size + 1, 1, none⟩) (Nat.le_succ _) (.int .i64 0))
  clear y0 y1 z0 z1
  generalize (w2.setCell ⟨w.heap.size + 1, 0, none⟩ (.int .i64 0)).setCell ⟨w.heap.size + 1, 1, none⟩ (.int .i64 0) = wz at HR9 HB9 ⊢
  refine listF rfl HF rfl (by decide) (v := .bool false) (by go_simp) ?_
  clear HF b
  intro b HF
  show Code.wp _ _ _ _ _
  refine wp_ret ?_
  try simp only [Exit.inBlock, Exit.then]
  refine bodyPost_ret (results_ct (cs := #[.int .i64 0, .int .i64 0]) rfl _ _ (w.heap.size + 1) 67 _ _ (HF.get (k := 6) rfl) HR9.out Try.underlying67 rfl (by kernel_rfl)) HF.none ?_
  exact ⟨by rw [show b.tmps.getD 7 undef = .bool false from HF.get (k := 7) rfl], HB9.out⟩
set_option maxHeartbeats 4000000 in
set_option maxRecDepth 100000 in
theorem exp_yes {w : World} {s base : Nat} {x : S64} {U : Option Addr} {e_ : Nat} (hs : Row w s 90 #[.slice none 0 0, .slice none 0 0, .slice none 0 0, .slice none 0 0, .slice U 1 e_]) (hR : k64.R 64 w base (fun _ => True) (.slice U 1 e_) [x]) (name : ByteArray) :
    Calls Try.prog 17 #[.pointer (some ⟨s, 0, none⟩), .int .i64 0, .string name] w fun e w' => ∃ (k a : Int) (is : Bool), e = .returned (.tuple #[.agg #[.int .i64 k, .int .i64 a], .bool is]) ∧ TellsN x name k a is ∧ Below w.heap.size w w' := by
  obtain ⟨g, cap, B0, b0, B1, b1, B2, b2, B3, b3, B4, b4, B5, b5, B6, b6, B8, b8, B9, b9, B10, b10, B11, b11, B12, b12, B13, b13, B14, b14, e1, hc, hM⟩ := R64_one hR
  cases e1
  have HC := Aside0.mk hc
  obtain ⟨v0, v1, v2, v3, v4, v5, v6, v8, v9, v10, v11, v12, v13, v14, ee, r0, r1, r2, r3, r4, r5, r6, r8, r9, r10, r11, r12, r13, r14⟩ := k64_openM hM
  simp only [List.cons.injEq, and_true] at ee
  obtain ⟨rfl, rfl, rfl, rfl, rfl, rfl, rfl, _, rfl, rfl, rfl, rfl, rfl, rfl, rfl⟩ := ee
  have C6 := Aside0.mk ((Kd.R_reads' r6).2.2); have C11 := Aside0.mk ((Kd.R_reads' r11).2.2); have C12 := Aside0.mk ((Kd.R_reads' r12).2.2); have C13 := Aside0.mk ((Kd.R_reads' r13).2.2); have C14 := Aside0.mk ((Kd.R_reads' r14).2.2)
  clear hc hM hR r0 r1 r2 r3 r4 r5 r6 r8 r9 r10 r11 r12 r13 r14
  obtain ⟨w1, hw1⟩ : ∃ w1, w1 = w.alloc (.cells #[.string name] 9) := ⟨_, rfl⟩
  have hs1 : w1.heap.size = w.heap.size + 1 := by rw [hw1]; simp
  obtain ⟨w2, hw2⟩ : ∃ w2, w2 = w1.alloc (.cells #[.int .i64 0, .int .i64 0] 67) := ⟨_, rfl⟩
  have HB := Aside0.mk (show Below w.heap.size w w2 by rw [hw2, hw1]; exact below_alloc (below_alloc (Below.refl _ _) _) _)
  have HN := Aside0.mk (show Row w2 w.heap.size 9 #[.string name] by rw [hw2, hw1]; exact St.Row.alloc (St.Row.made _ _ _ rfl) _)
  have HZ := Aside0.mk (show Row w2 (w.heap.size + 1) 67 #[.int .i64 0, .int .i64 0] by rw [hw2]; exact St.Row.made _ _ _ hs1.symm)
  have HR := Aside0.mk (show Row w2 s 90 #[.slice none 0 0, .slice none 0 0, .slice none 0 0, .slice none 0 0, .slice (some ⟨g, 0, none⟩) 1 e_] by rw [hw2, hw1]; exact St.Row.alloc (St.Row.alloc hs _) _)
  have HL := Aside0.mk hs.lt
  have HS2 := Aside0.mk (show w2.heap.size = w.heap.size + 2 by rw [hw2]; simp [hs1])
  have HW1 := Aside0.mk hw1; have HW2 := Aside0.mk hw2; have HS1 := Aside0.mk hs1
  clear hs hw1 hw2 hs1
  refine enterF [.pointer (some ⟨s, 0, none⟩), .int .i64 0, .string name] Try.func17 rfl Try.ntmps17 (Nat.le_of_ble_eq_true rfl) ?_
  intro b HF
  refine wp_seq ?_
  refine wp_region_lit ?_
  refine listM rfl HF rfl (by decide) (v := .pointer (some ⟨w.heap.size, 0, none⟩)) (w1 := w1) (by have e2 : b.tmps[2]?.getD undef = .string name := HF.at rfl; rw [HW1.out]; go_simp) ?_
  clear HF b
  intro b HF
  refine listM rfl HF rfl (by decide) (v := .pointer (some ⟨w.heap.size + 1, 0, none⟩)) (w1 := w2) (by rw [HW2.out]; go_simp; exact HS1.out) ?_
  clear HF b
  intro b HF
  refine listF rfl HF rfl (by decide) (v := .bool false) (by go_simp) ?_
  clear HF b
  intro b HF
  show Code.wp _ _ _ _ _
  refine wp_seq ?_
  refine wp_seq ?_
  refine wp_region_lit ?_
  replace HF := HF.sub [(7, .bool false), (6, .pointer (some ⟨w.heap.size + 1, 0, none⟩)), (5, .pointer (some ⟨w.heap.size, 0, none⟩)), (2, .string name), (1, .int .i64 0), (0, .pointer (some ⟨s, 0, none⟩))] (List.forall_mem_cons.2 ⟨rfl, (List.forall_mem_cons.2 ⟨rfl, (List.forall_mem_cons.2 ⟨rfl, (List.forall_mem_cons.2 ⟨rfl, (List.forall_mem_cons.2 ⟨rfl, (List.forall_mem_cons.2 ⟨rfl, by intro p_ hp_; cases hp_⟩)⟩)⟩)⟩)⟩)⟩)
  have q4 : w2.cell? ⟨s, 4, none⟩ = some (.slice (some ⟨g, 0, none⟩) 1 e_) := HR.out.cell 4
  clear HW1 HW2 HS1
  refine listF rfl HF rfl (by decide) (v := .pointer (some ⟨s, 0, none⟩)) (by have e0 : b.tmps[0]?.getD undef = .pointer (some ⟨s, 0, none⟩) := HF.at rfl; go_simp) ?_
  clear HF b
  intro b HF
  refine listF rfl HF rfl (by decide) (v := .pointer (some ⟨s, 0, none⟩)) (by have e12 : b.tmps[12]?.getD undef = .pointer (some ⟨s, 0, none⟩) := HF.at rfl; go_simp) ?_
  clear HF b
  intro b HF
  refine listF rfl HF rfl (by decide) (v := .pointer (some ⟨s, 4, none⟩)) (by have e13 : b.tmps[13]?.getD undef = .pointer (some ⟨s, 0, none⟩) := HF.at rfl; go_simp) ?_
  clear HF b
  intro b HF
  refine listF rfl HF rfl (by decide) (v := .slice (some ⟨g, 0, none⟩) 1 e_) (by have e14 : b.tmps[14]?.getD undef = .pointer (some ⟨s, 4, none⟩) := HF.at rfl; go_simp) ?_
  clear HF b
  intro b HF
  refine listF rfl HF rfl (by decide) (v := .int .i64 0) (by have e1 : b.tmps[1]?.getD undef = .int .i64 0 := HF.at rfl; go_simp) ?_
  clear HF b
  intro b HF
  refine listC rfl HF rfl (by decide) (fun K_ hK_ => ?_)
  have e15 : b.tmps[15]?.getD undef = .slice (some ⟨g, 0, none⟩) 1 e_ := HF.at rfl
  have e16 : b.tmps[16]?.getD undef = .int .i64 0 := HF.at rfl
  go_simp
  refine (has_calls w2 (some ⟨g, 0, none⟩) 1 e_ 0).mono ?_
  rintro e wz ⟨rfl, hwz⟩
  rw [hwz, show (decide ((0 : Int) ≤ 0) && decide ((0 : Int) < ((1 : Nat) : Int))) = true from rfl]
  clear hwz wz
  refine hK_.out _ _ ?_
  clear hK_ K_ e15 e16 HF b
  intro b HF
  refine listF rfl HF rfl (by decide) (v := .bool false) (by have e17 : b.tmps[17]?.getD undef = .bool true := HF.at rfl; go_simp) ?_
  clear HF b
  intro b HF
  show Code.wp _ _ _ _ _
  refine wp_cond_false (HF.get rfl) ?_
  refine wp_skip ?_
  show Code.wp _ _ _ _ _
  refine wp_seq ?_
  refine wp_region_lit ?_
  refine listF rfl HF rfl (by decide) (v := .pointer (some ⟨s, 0, none⟩)) (by have e0 : b.tmps[0]?.getD undef = .pointer (some ⟨s, 0, none⟩) := HF.at rfl; go_simp) ?_
  clear HF b
  intro b HF
  refine listF rfl HF rfl (by decide) (v := .pointer (some ⟨s, 0, none⟩)) (by have e20 : b.tmps[20]?.getD undef = .pointer (some ⟨s, 0, none⟩) := HF.at rfl; go_simp) ?_
  clear HF b
  intro b HF
  refine listF rfl HF rfl (by decide) (v := .pointer (some ⟨s, 4, none⟩)) (by have e21 : b.tmps[21]?.getD undef = .pointer (some ⟨s, 0, none⟩) := HF.at rfl; go_simp) ?_
  clear HF b
  intro b HF
  refine listF rfl HF rfl (by decide) (v := .slice (some ⟨g, 0, none⟩) 1 e_) (by have e22 : b.tmps[22]?.getD undef = .pointer (some ⟨s, 4, none⟩) := HF.at rfl; go_simp) ?_
  clear HF b
  intro b HF
  refine listF rfl HF rfl (by decide) (v := .int .i64 0) (by have e1 : b.tmps[1]?.getD undef = .int .i64 0 := HF.at rfl; go_simp) ?_
  clear HF b
  intro b HF
  refine listF rfl HF rfl (by decide) (v := .pointer (some ⟨g, 0, none⟩)) (by have e23 : b.tmps[23]?.getD undef = .slice (some ⟨g, 0, none⟩) 1 e_ := HF.at rfl; have e24 : b.tmps[24]?.getD undef = .int .i64 0 := HF.at rfl; go_simp) ?_
  clear HF b
  intro b HF
  refine listF rfl HF rfl (by decide) (v := .agg #[.slice B0 x.f0.f0.length b0, .slice B1 x.f0.f1.length b1, .slice B2 x.f0.f2.length b2, .slice B3 x.f0.f3.length b3, .slice B4 x.f0.f4.length b4, .slice B5 x.f0.f5.length b5, .slice B6 x.f0.f6.length b6, .int .i64 x.f0.f7, .slice B8 x.f0.f8.length b8, .slice B9 x.f0.f9.length b9, .slice B10 x.f0.f10.length b10, .slice B11 x.f1.length b11, .slice B12 x.f2.length b12, .slice B13 x.f3.length b13, .slice B14 x.f4.length b14]) (by have e25 : b.tmps[25]?.getD undef = .pointer (some ⟨g, 0, none⟩) := HF.at rfl; have c_0 : w2.cell? ⟨g, 0, none⟩ = some (.slice B0 x.f0.f0.length b0) := pw_cell_below HB.out (HC.out 0 _ rfl); have c_1 : w2.cell? ⟨g, 1, none⟩ = some (.slice B1 x.f0.f1.length b1) := pw_cell_below HB.out (HC.out 1 _ rfl); have c_2 : w2.cell? ⟨g, 2, none⟩ = some (.slice B2 x.f0.f2.length b2) := pw_cell_below HB.out (HC.out 2 _ rfl); have c_3 : w2.cell? ⟨g, 3, none⟩ = some (.slice B3 x.f0.f3.length b3) := pw_cell_below HB.out (HC.out 3 _ rfl); have c_4 : w2.cell? ⟨g, 4, none⟩ = some (.slice B4 x.f0.f4.length b4) := pw_cell_below HB.out (HC.out 4 _ rfl); have c_5 : w2.cell? ⟨g, 5, none⟩ = some (.slice B5 x.f0.f5.length b5) := pw_cell_below HB.out (HC.out 5 _ rfl); have c_6 : w2.cell? ⟨g, 6, none⟩ = some (.slice B6 x.f0.f6.length b6) := pw_cell_below HB.out (HC.out 6 _ rfl); have c_7 : w2.cell? ⟨g, 7, none⟩ = some (.int .i64 x.f0.f7) := pw_cell_below HB.out (HC.out 7 _ rfl); have c_8 : w2.cell? ⟨g, 8, none⟩ = some (.slice B8 x.f0.f8.length b8) := pw_cell_below HB.out (HC.out 8 _ rfl); have c_9 : w2.cell? ⟨g, 9, none⟩ = some (.slice B9 x.f0.f9.length b9) := pw_cell_below HB.out (HC.out 9 _ rfl); have c_10 : w2.cell? ⟨g, 10, none⟩ = some (.slice B10 x.f0.f10.length b10) := pw_cell_below HB.out (HC.out 10 _ rfl); have c_11 : w2.cell? ⟨g, 11, none⟩ = some (.slice B11 x.f1.length b11) := pw_cell_below HB.out (HC.out 11 _ rfl); have c_12 : w2.cell? ⟨g, 12, none⟩ = some (.slice B12 x.f2.length b12) := pw_cell_below HB.out (HC.out 12 _ rfl); have c_13 : w2.cell? ⟨g, 13, none⟩ = some (.slice B13 x.f3.length b13) := pw_cell_below HB.out (HC.out 13 _ rfl); have c_14 : w2.cell? ⟨g, 14, none⟩ = some (.slice B14 x.f4.length b14) := pw_cell_below HB.out (HC.out 14 _ rfl); go_simp) ?_
  clear HF b
  intro b HF
  clear q4
  obtain ⟨w3, hw3⟩ : ∃ w3, w3 = w2.alloc (.cells #[.slice none 0 0, .slice none 0 0, .slice none 0 0, .slice none 0 0, .slice none 0 0, .slice none 0 0, .slice none 0 0, .int .i64 0, .slice none 0 0, .slice none 0 0, .slice none 0 0, .slice none 0 0, .slice none 0 0, .slice none 0 0, .slice none 0 0] 64) := ⟨_, rfl⟩
  have HA := Aside0.mk (show Row w3 w2.heap.size 64 #[.slice none 0 0, .slice none 0 0, .slice none 0 0, .slice none 0 0, .slice none 0 0, .slice none 0 0, .slice none 0 0, .int .i64 0, .slice none 0 0, .slice none 0 0, .slice none 0 0, .slice none 0 0, .slice none 0 0, .slice none 0 0, .slice none 0 0] by rw [hw3]; exact St.Row.made _ _ _ rfl)
  have hb3 : Below w2.heap.size w2 w3 := by rw [hw3]; exact below_alloc (Below.refl _ _) _
  replace HN := Aside0.mk (HN.out.below hb3 HN.out.lt); replace HZ := Aside0.mk (HZ.out.below hb3 HZ.out.lt)
  replace HB := Aside0.mk (HB.out.trans (St.below_mono hb3 HB.out.size))
  have HW3 := Aside0.mk hw3
  clear hw3 hb3
  refine listM rfl HF rfl (by decide) (v := .pointer (some ⟨w2.heap.size, 0, none⟩)) (w1 := w3) (by rw [HW3.out]; go_simp) ?_
  clear HF b
  intro b HF
  have y0 : w3.cell? ⟨w2.heap.size, 0, none⟩ = some (.slice none 0 0) := HA.out.cell 0; have z0 := HA.out.frozen 0
  have y1 : w3.cell? ⟨w2.heap.size, 1, none⟩ = some (.slice none 0 0) := HA.out.cell 1; have z1 := HA.out.frozen 1
  have y2 : w3.cell? ⟨w2.heap.size, 2, none⟩ = some (.slice none 0 0) := HA.out.cell 2; have z2 := HA.out.frozen 2
  have y3 : w3.cell? ⟨w2.heap.size, 3, none⟩ = some (.slice none 0 0) := HA.out.cell 3; have z3 := HA.out.frozen 3
  have y4 : w3.cell? ⟨w2.heap.size, 4, none⟩ = some (.slice none 0 0) := HA.out.cell 4; have z4 := HA.out.frozen 4
  have y5 : w3.cell? ⟨w2.heap.size, 5, none⟩ = some (.slice none 0 0) := HA.out.cell 5; have z5 := HA.out.frozen 5
  have y6 : w3.cell? ⟨w2.heap.size, 6, none⟩ = some (.slice none 0 0) := HA.out.cell 6; have z6 := HA.out.frozen 6
  have y7 : w3.cell? ⟨w2.heap.size, 7, none⟩ = some (.int .i64 0) := HA.out.cell 7; have z7 := HA.out.frozen 7
  have y8 : w3.cell? ⟨w2.heap.size, 8, none⟩ = some (.slice none 0 0) := HA.out.cell 8; have z8 := HA.out.frozen 8
  have y9 : w3.cell? ⟨w2.heap.size, 9, none⟩ = some (.slice none 0 0) := HA.out.cell 9; have z9 := HA.out.frozen 9
  have y10 : w3.cell? ⟨w2.heap.size, 10, none⟩ = some (.slice none 0 0) := HA.out.cell 10; have z10 := HA.out.frozen 10
  have y11 : w3.cell? ⟨w2.heap.size, 11, none⟩ = some (.slice none 0 0) := HA.out.cell 11; have z11 := HA.out.frozen 11
  have y12 : w3.cell? ⟨w2.heap.size, 12, none⟩ = some (.slice none 0 0) := HA.out.cell 12; have z12 := HA.out.frozen 12
  have y13 : w3.cell? ⟨w2.heap.size, 13, none⟩ = some (.slice none 0 0) := HA.out.cell 13; have z13 := HA.out.frozen 13
  have y14 : w3.cell? ⟨w2.heap.size, 14, none⟩ = some (.slice none 0 0) := HA.out.cell 14; have z14 := HA.out.frozen 14
  refine listS (w1 := put15 w3 w2.heap.size (.slice B0 x.f0.f0.length b0) (.slice B1 x.f0.f1.length b1) (.slice B2 x.f0.f2.length b2) (.slice B3 x.f0.f3.length b3) (.slice B4 x.f0.f4.length b4) (.slice B5 x.f0.f5.length b5) (.slice B6 x.f0.f6.length b6) (.int .i64 x.f0.f7) (.slice B8 x.f0.f8.length b8) (.slice B9 x.f0.f9.length b9) (.slice B10 x.f0.f10.length b10) (.slice B11 x.f1.length b11) (.slice B12 x.f2.length b12) (.slice B13 x.f3.length b13) (.slice B14 x.f4.length b14)) rfl HF rfl (by have e26 : b.tmps[26]?.getD undef = .agg #[.slice B0 x.f0.f0.length b0, .slice B1 x.f0.f1.length b1, .slice B2 x.f0.f2.length b2, .slice B3 x.f0.f3.length b3, .slice B4 x.f0.f4.length b4, .slice B5 x.f0.f5.length b5, .slice B6 x.f0.f6.length b6, .int .i64 x.f0.f7, .slice B8 x.f0.f8.length b8, .slice B9 x.f0.f9.length b9, .slice B10 x.f0.f10.length b10, .slice B11 x.f1.length b11, .slice B12 x.f2.length b12, .slice B13 x.f3.length b13, .slice B14 x.f4.length b14] := HF.at rfl; have e8 : b.tmps[8]?.getD undef = .pointer (some ⟨w2.heap.size, 0, none⟩) := HF.at rfl; go_simp; rfl) ?_
  replace HA := Aside0.mk (put15_row (a0 := .slice B0 x.f0.f0.length b0) (a1 := .slice B1 x.f0.f1.length b1) (a2 := .slice B2 x.f0.f2.length b2) (a3 := .slice B3 x.f0.f3.length b3) (a4 := .slice B4 x.f0.f4.length b4) (a5 := .slice B5 x.f0.f5.length b5) (a6 := .slice B6 x.f0.f6.length b6) (a7 := .int .i64 x.f0.f7) (a8 := .slice B8 x.f0.f8.length b8) (a9 := .slice B9 x.f0.f9.length b9) (a10 := .slice B10 x.f0.f10.length b10) (a11 := .slice B11 x.f1.length b11) (a12 := .slice B12 x.f2.length b12) (a13 := .slice B13 x.f3.length b13) (a14 := .slice B14 x.f4.length b14) HA.out)
  replace HN := Aside0.mk ((put15_off (a0 := .slice B0 x.f0.f0.length b0) (a1 := .slice B1 x.f0.f1.length b1) (a2 := .slice B2 x.f0.f2.length b2) (a3 := .slice B3 x.f0.f3.length b3) (a4 := .slice B4 x.f0.f4.length b4) (a5 := .slice B5 x.f0.f5.length b5) (a6 := .slice B6 x.f0.f6.length b6) (a7 := .int .i64 x.f0.f7) (a8 := .slice B8 x.f0.f8.length b8) (a9 := .slice B9 x.f0.f9.length b9) (a10 := .slice B10 x.f0.f10.length b10) (a11 := .slice B11 x.f1.length b11) (a12 := .slice B12 x.f2.length b12) (a13 := .slice B13 x.f3.length b13) (a14 := .slice B14 x.f4.length b14) _ (show w.heap.size ≠ w2.heap.size by rw [HS2.out]; omega)).trans HN.out)
  replace HZ := Aside0.mk ((put15_off (a0 := .slice B0 x.f0.f0.length b0) (a1 := .slice B1 x.f0.f1.length b1) (a2 := .slice B2 x.f0.f2.length b2) (a3 := .slice B3 x.f0.f3.length b3) (a4 := .slice B4 x.f0.f4.length b4) (a5 := .slice B5 x.f0.f5.length b5) (a6 := .slice B6 x.f0.f6.length b6) (a7 := .int .i64 x.f0.f7) (a8 := .slice B8 x.f0.f8.length b8) (a9 := .slice B9 x.f0.f9.length b9) (a10 := .slice B10 x.f0.f10.length b10) (a11 := .slice B11 x.f1.length b11) (a12 := .slice B12 x.f2.length b12) (a13 := .slice B13 x.f3.length b13) (a14 := .slice B14 x.f4.length b14) _ (show w.heap.size + 1 ≠ w2.heap.size by rw [HS2.out]; omega)).trans HZ.out)
  replace HB := Aside0.mk (put15_below (a0 := .slice B0 x.f0.f0.length b0) (a1 := .slice B1 x.f0.f1.length b1) (a2 := .slice B2 x.f0.f2.length b2) (a3 := .slice B3 x.f0.f3.length b3) (a4 := .slice B4 x.f0.f4.length b4) (a5 := .slice B5 x.f0.f5.length b5) (a6 := .slice B6 x.f0.f6.length b6) (a7 := .int .i64 x.f0.f7) (a8 := .slice B8 x.f0.f8.length b8) (a9 := .slice B9 x.f0.f9.length b9) (a10 := .slice B10 x.f0.f10.length b10) (a11 := .slice B11 x.f1.length b11) (a12 := .slice B12 x.f2.length b12) (a13 := .slice B13 x.f3.length b13) (a14 := .slice B14 x.f4.length b14) HB.out (show w.heap.size ≤ w2.heap.size by rw [HS2.out]; omega))
  clear y0 z0 y1 z1 y2 z2 y3 z3 y4 z4 y5 z5 y6 z6 y7 z7 y8 z8 y9 z9 y10 z10 y11 z11 y12 z12 y13 z13 y14 z14 HW3 HC
  generalize put15 w3 w2.heap.size (.slice B0 x.f0.f0.length b0) (.slice B1 x.f0.f1.length b1) (.slice B2 x.f0.f2.length b2) (.slice B3 x.f0.f3.length b3) (.slice B4 x.f0.f4.length b4) (.slice B5 x.f0.f5.length b5) (.slice B6 x.f0.f6.length b6) (.int .i64 x.f0.f7) (.slice B8 x.f0.f8.length b8) (.slice B9 x.f0.f9.length b9) (.slice B10 x.f0.f10.length b10) (.slice B11 x.f1.length b11) (.slice B12 x.f2.length b12) (.slice B13 x.f3.length b13) (.slice B14 x.f4.length b14) = w4 at HA HN HZ HB ⊢
  replace HA := Aside0.mk (show Row w4 w2.heap.size 64 #[.slice B0 x.f0.f0.length b0, .slice B1 x.f0.f1.length b1, .slice B2 x.f0.f2.length b2, .slice B3 x.f0.f3.length b3, .slice B4 x.f0.f4.length b4, .slice B5 x.f0.f5.length b5, .slice B6 x.f0.f6.length b6, .int .i64 x.f0.f7, .slice B8 x.f0.f8.length b8, .slice B9 x.f0.f9.length b9, .slice B10 x.f0.f10.length b10, .slice B11 x.f1.length b11, .slice B12 x.f2.length b12, .slice B13 x.f3.length b13, .slice B14 x.f4.length b14] from HA.out)
  replace HN := Aside0.mk (show Row w4 w.heap.size 9 #[.string name] from HN.out)
  replace HZ := Aside0.mk (show Row w4 (w.heap.size + 1) 67 #[.int .i64 0, .int .i64 0] from HZ.out)
  obtain ⟨g8, hg8⟩ : ∃ g8, g8 = w2.heap.size := ⟨_, rfl⟩
  replace HF := HF.sub [(8, .pointer (some ⟨w2.heap.size, 0, none⟩)), (7, .bool false), (6, .pointer (some ⟨w.heap.size + 1, 0, none⟩)), (5, .pointer (some ⟨w.heap.size, 0, none⟩))] (List.forall_mem_cons.2 ⟨rfl, (List.forall_mem_cons.2 ⟨rfl, (List.forall_mem_cons.2 ⟨rfl, (List.forall_mem_cons.2 ⟨rfl, by intro p_ hp_; cases hp_⟩)⟩)⟩)⟩)
  rw [← hg8] at HF HA
  clear hg8 HS2 HR
  show Code.wp _ _ _ _ _
  refine wp_seq ?_
  refine wp_region_lit ?_
  have x6 : w4.cell? ⟨g8, 6, none⟩ = some (.slice B6 x.f0.f6.length b6) := HA.out.cell 6
  refine listF rfl HF rfl (by decide) (v := .pointer (some ⟨g8, 0, none⟩)) (by have e8 : b.tmps[8]?.getD undef = .pointer (some ⟨g8, 0, none⟩) := HF.at rfl; go_simp) ?_
  clear HF b
  intro b HF
  refine listF rfl HF rfl (by decide) (v := .pointer (some ⟨g8, 6, none⟩)) (by have e27 : b.tmps[27]?.getD undef = .pointer (some ⟨g8, 0, none⟩) := HF.at rfl; go_simp) ?_
  clear HF b
  intro b HF
  refine listF rfl HF rfl (by decide) (v := .slice B6 x.f0.f6.length b6) (by have e28 : b.tmps[28]?.getD undef = .pointer (some ⟨g8, 6, none⟩) := HF.at rfl; go_simp) ?_
  clear HF b
  intro b HF
  refine listF rfl HF rfl (by decide) (v := .func (.func 31) #[] #[.pointer (some ⟨w.heap.size, 0, none⟩)]) (by have e5 : b.tmps[5]?.getD undef = .pointer (some ⟨w.heap.size, 0, none⟩) := HF.at rfl; go_simp) ?_
  clear HF b
  intro b HF
  clear x6
  refine listC rfl HF rfl (by decide) (fun K_ hK_ => ?_)
  have e29 : b.tmps[29]?.getD undef = .slice B6 x.f0.f6.length b6 := HF.at rfl
  have e30 : b.tmps[30]?.getD undef = .func (.func 31) #[] #[.pointer (some ⟨w.heap.size, 0, none⟩)] := HF.at rfl
  go_simp
  refine (index_calls (Kd.C_below C6.out HB.out) w.heap.size name (HN.out.cell 0)).mono ?_
  rintro e w5 ⟨i, rfl, hi, hb_⟩
  have HI := Aside0.mk hi
  replace HA := Aside0.mk (HA.out.below hb_ HA.out.lt); replace HZ := Aside0.mk (HZ.out.below hb_ HZ.out.lt)
  replace HB := Aside0.mk (HB.out.trans (St.below_mono hb_ HB.out.size))
  refine hK_.out _ _ ?_
  clear hK_ K_ e29 e30 hi hb_ HN HF b
  intro b HF
  refine listF rfl HF rfl (by decide) (v := .int .i64 i) (by have e31 : b.tmps[31]?.getD undef = .int .i64 i := HF.at rfl; go_simp) ?_
  clear HF b
  intro b HF
  show Code.wp _ _ _ _ _
  refine wp_seq ?_
  refine wp_seq ?_
  refine wp_region_lit ?_
  replace HF := HF.sub [(9, .int .i64 i), (8, .pointer (some ⟨g8, 0, none⟩)), (7, .bool false), (6, .pointer (some ⟨w.heap.size + 1, 0, none⟩))] (List.forall_mem_cons.2 ⟨rfl, (List.forall_mem_cons.2 ⟨rfl, (List.forall_mem_cons.2 ⟨rfl, (List.forall_mem_cons.2 ⟨rfl, by intro p_ hp_; cases hp_⟩)⟩)⟩)⟩)
  refine listF rfl HF rfl (by decide) (v := .int .i64 i) (by have e9 : b.tmps[9]?.getD undef = .int .i64 i := HF.at rfl; go_simp) ?_
  clear HF b
  intro b HF
  rcases HI.out with ⟨hi, hno⟩ | ⟨hi0, hi1, hnm, hbe⟩
  · have d0 : decide (i < 0) = true := decide_eq_true (by omega)
    have HNO := Aside0.mk hno; have HII := Aside0.mk hi
    clear hno hi
    refine listF rfl HF rfl (by decide) (v := .bool true) (by have e32 : b.tmps[32]?.getD undef = .int .i64 i := HF.at rfl; go_simp) ?_
    clear HF b
    intro b HF
    show Code.wp _ _ _ _ _
    refine wp_cond_true (HF.get rfl) ?_
    refine wp_seq ?_
    refine wp_region_lit ?_
    refine listF rfl HF rfl (by decide) (v := .agg #[.int .i64 0, .int .i64 0]) (by go_simp) ?_
    clear HF b
    intro b HF
    have y0 : w5.cell? ⟨w.heap.size + 1, 0, none⟩ = some (.int .i64 0) := HZ.out.cell 0; have z0 := HZ.out.frozen 0
    have y1 : w5.cell? ⟨w.heap.size + 1, 1, none⟩ = some (.int .i64 0) := HZ.out.cell 1; have z1 := HZ.out.frozen 1
    refine listS (w1 := (w5.setCell ⟨w.heap.size + 1, 0, none⟩ (.int .i64 0)).setCell ⟨w.heap.size + 1, 1, none⟩ (.int .i64 0)) rfl HF rfl (by have e34 : b.tmps[34]?.getD undef = .agg #[.int .i64 0, .int .i64 0] := HF.at rfl; have e6 : b.tmps[6]?.getD undef = .pointer (some ⟨w.heap.size + 1, 0, none⟩) := HF.at rfl; go_simp) ?_
    have HR9 := Aside0.mk ((HZ.out.put_ 0 (.int .i64 0)).put_ 1 (.int .i64 0))
    have HB9 := Aside0.mk ((HB.out.setCell (p := ⟨w.heap.size + 1, 0, none⟩) (Nat.le_succ _) (.int .i64 0)).setCell (p := ⟨w.heap.size + 1, 1, none⟩) (Nat.le_succ _) (.int .i64 0))
    clear y0 y1 z0 z1
    generalize (w5.setCell ⟨w.heap.size + 1, 0, none⟩ (.int .i64 0)).setCell ⟨w.heap.size + 1, 1, none⟩ (.int .i64 0) = wz at HR9 HB9 ⊢
    refine listF rfl HF rfl (by decide) (v := .bool false) (by go_simp) ?_
    clear HF b
    intro b HF
    show Code.wp _ _ _ _ _
    refine wp_ret ?_
    try simp only [Exit.inBlock, Exit.then]
    refine bodyPost_ret (results_ct (cs := #[.int .i64 0, .int .i64 0]) rfl _ _ (w.heap.size + 1) 67 _ _ (HF.get (k := 6) rfl) HR9.out Try.underlying67 rfl (by kernel_rfl)) HF.none ?_
    exact ⟨0, 0, false, by rw [show b.tmps.getD 7 undef = .bool false from HF.get (k := 7) rfl], ⟨-1, .inl ⟨rfl, HNO.out⟩, .inl ⟨rfl, rfl, rfl, rfl⟩⟩, HB9.out⟩
  · have d0 : decide (i < 0) = false := decide_eq_false (by omega)
    have HFI := HI
    refine listF rfl HF rfl (by decide) (v := .bool false) (by have e32 : b.tmps[32]?.getD undef = .int .i64 i := HF.at rfl; go_simp) ?_
    clear HF b
    intro b HF
    show Code.wp _ _ _ _ _
    refine wp_cond_false (HF.get rfl) ?_
    refine wp_skip ?_
    show Code.wp _ _ _ _ _
    refine wp_seq ?_
    refine wp_region_lit ?_
    obtain ⟨ad, eA, q0, q1, q2⟩ := at_T74 C6.out i hi0 hi1
    cases eA
    obtain ⟨y, hy⟩ : ∃ y, y = rd_T74 x.f0.f6 i := ⟨_, rfl⟩
    rw [← hy] at q0 q1 q2
    replace q0 := (HB.out.cell (World.block_lt_of_cell? w _ q0)).trans q0
    replace q1 := (HB.out.cell (World.block_lt_of_cell? w _ q1)).trans q1
    replace q2 := (HB.out.cell (World.block_lt_of_cell? w _ q2)).trans q2
    have HY := Aside0.mk hy; have HI0 := Aside0.mk hi0
    have d1 : decide (0 ≤ i) = true := decide_eq_true hi0
    have d2 : decide (i < (x.f0.f6.length : Int)) = true := decide_eq_true hi1
    clear hy hnm hbe
    have x6 : w5.cell? ⟨g8, 6, none⟩ = some (.slice (some ad) x.f0.f6.length b6) := HA.out.cell 6
    refine listF rfl HF rfl (by decide) (v := .pointer (some ⟨g8, 0, none⟩)) (by have e8 : b.tmps[8]?.getD undef = .pointer (some ⟨g8, 0, none⟩) := HF.at rfl; go_simp) ?_
    clear HF b
    intro b HF
    refine listF rfl HF rfl (by decide) (v := .pointer (some ⟨g8, 6, none⟩)) (by have e35 : b.tmps[35]?.getD undef = .pointer (some ⟨g8, 0, none⟩) := HF.at rfl; go_simp) ?_
    clear HF b
    intro b HF
    refine listF rfl HF rfl (by decide) (v := .slice (some ad) x.f0.f6.length b6) (by have e36 : b.tmps[36]?.getD undef = .pointer (some ⟨g8, 6, none⟩) := HF.at rfl; go_simp) ?_
    clear HF b
    intro b HF
    refine listF rfl HF rfl (by decide) (v := .int .i64 i) (by have e9 : b.tmps[9]?.getD undef = .int .i64 i := HF.at rfl; go_simp) ?_
    clear HF b
    intro b HF
    refine listF rfl HF rfl (by decide) (v := .pointer (some (ad.add (i.toNat * 3)))) (by have e37 : b.tmps[37]?.getD undef = .slice (some ad) x.f0.f6.length b6 := HF.at rfl; have e38 : b.tmps[38]?.getD undef = .int .i64 i := HF.at rfl; go_simp) ?_
    clear HF b
    intro b HF
    refine listF rfl HF rfl (by decide) (v := .agg #[.string y.f0, .int .i64 y.f1, .int .i64 y.f2]) (by have e39 : b.tmps[39]?.getD undef = .pointer (some (ad.add (i.toNat * 3))) := HF.at rfl; go_simp) ?_
    clear HF b
    intro b HF
    clear x6 q0 q1 q2
    obtain ⟨g10, hg10⟩ : ∃ g10, g10 = w5.heap.size := ⟨_, rfl⟩
    obtain ⟨w6, hw6⟩ : ∃ w6, w6 = w5.alloc (.cells #[.string ⟨#[]⟩, .int .i64 0, .int .i64 0] 74) := ⟨_, rfl⟩
    have hb6 : Below w5.heap.size w5 w6 := by rw [hw6]; exact below_alloc (Below.refl _ _) _
    have HG := Aside0.mk (show Row w6 g10 74 #[.string ⟨#[]⟩, .int .i64 0, .int .i64 0] by rw [hw6, hg10]; exact St.Row.made _ _ _ rfl)
    have HG8 := Aside0.mk (show g8 < g10 by rw [hg10]; exact HA.out.lt)
    have HGX := Aside0.mk (show w.heap.size + 1 < g10 by rw [hg10]; exact HZ.out.lt)
    replace HA := Aside0.mk (HA.out.below hb6 HA.out.lt); replace HZ := Aside0.mk (HZ.out.below hb6 HZ.out.lt)
    replace HB := Aside0.mk (HB.out.trans (St.below_mono hb6 HB.out.size))
    have HW6 := Aside0.mk hw6; have HG10 := Aside0.mk hg10
    clear hw6 hb6 hg10
    refine listM rfl HF rfl (by decide) (v := .pointer (some ⟨g10, 0, none⟩)) (w1 := w6) (by rw [HW6.out, HG10.out]; go_simp) ?_
    clear HF b
    intro b HF
    have y0 : w6.cell? ⟨g10, 0, none⟩ = some (.string ⟨#[]⟩) := HG.out.cell 0; have z0 := HG.out.frozen 0
    have y1 : w6.cell? ⟨g10, 1, none⟩ = some (.int .i64 0) := HG.out.cell 1; have z1 := HG.out.frozen 1
    have y2 : w6.cell? ⟨g10, 2, none⟩ = some (.int .i64 0) := HG.out.cell 2; have z2 := HG.out.frozen 2
    refine listS (w1 := ((w6.setCell ⟨g10, 0, none⟩ (.string y.f0)).setCell ⟨g10, 1, none⟩ (.int .i64 y.f1)).setCell ⟨g10, 2, none⟩ (.int .i64 y.f2)) rfl HF rfl (by have e40 : b.tmps[40]?.getD undef = .agg #[.string y.f0, .int .i64 y.f1, .int .i64 y.f2] := HF.at rfl; have e10 : b.tmps[10]?.getD undef = .pointer (some ⟨g10, 0, none⟩) := HF.at rfl; go_simp) ?_
    replace HG := Aside0.mk (((HG.out.put_ 0 (.string y.f0)).put_ 1 (.int .i64 y.f1)).put_ 2 (.int .i64 y.f2))
    replace HA := Aside0.mk (((HA.out.off (p := ⟨g10, 0, none⟩) (show g8 ≠ g10 by have := HG8.out; omega) (.string y.f0)).off (p := ⟨g10, 1, none⟩) (show g8 ≠ g10 by have := HG8.out; omega) (.int .i64 y.f1)).off (p := ⟨g10, 2, none⟩) (show g8 ≠ g10 by have := HG8.out; omega) (.int .i64 y.f2))
    replace HZ := Aside0.mk (((HZ.out.off (p := ⟨g10, 0, none⟩) (show w.heap.size + 1 ≠ g10 by have := HGX.out; omega) (.string y.f0)).off (p := ⟨g10, 1, none⟩) (show w.heap.size + 1 ≠ g10 by have := HGX.out; omega) (.int .i64 y.f1)).off (p := ⟨g10, 2, none⟩) (show w.heap.size + 1 ≠ g10 by have := HGX.out; omega) (.int .i64 y.f2))
    replace HB := Aside0.mk (((HB.out.setCell (p := ⟨g10, 0, none⟩) (show w.heap.size ≤ g10 by have := HGX.out; omega) (.string y.f0)).setCell (p := ⟨g10, 1, none⟩) (show w.heap.size ≤ g10 by have := HGX.out; omega) (.int .i64 y.f1)).setCell (p := ⟨g10, 2, none⟩) (show w.heap.size ≤ g10 by have := HGX.out; omega) (.int .i64 y.f2))
    clear y0 y1 y2 z0 z1 z2 HW6 HG10
    generalize ((w6.setCell ⟨g10, 0, none⟩ (.string y.f0)).setCell ⟨g10, 1, none⟩ (.int .i64 y.f1)).setCell ⟨g10, 2, none⟩ (.int .i64 y.f2) = w7 at HG HA HZ HB ⊢
    replace HG := Aside0.mk (show Row w7 g10 74 #[.string y.f0, .int .i64 y.f1, .int .i64 y.f2] from HG.out)
    show Code.wp _ _ _ _ _
    refine wp_seq ?_
    refine wp_region_lit ?_
    refine listF rfl HF rfl (by decide) (v := .slice none 0 0) (by go_simp) ?_
    clear HF b
    intro b HF
    show Code.wp _ _ _ _ _
    refine wp_seq ?_
    refine wp_seq ?_
    refine wp_region_lit ?_
    replace HF := HF.sub [(11, .slice none 0 0), (10, .pointer (some ⟨g10, 0, none⟩)), (8, .pointer (some ⟨g8, 0, none⟩)), (6, .pointer (some ⟨w.heap.size + 1, 0, none⟩))] (List.forall_mem_cons.2 ⟨rfl, (List.forall_mem_cons.2 ⟨rfl, (List.forall_mem_cons.2 ⟨rfl, (List.forall_mem_cons.2 ⟨rfl, by intro p_ hp_; cases hp_⟩)⟩)⟩)⟩)
    have x1 : w7.cell? ⟨g10, 1, none⟩ = some (.int .i64 y.f1) := HG.out.cell 1
    refine listF rfl HF rfl (by decide) (v := .pointer (some ⟨g10, 1, none⟩)) (by have e10 : b.tmps[10]?.getD undef = .pointer (some ⟨g10, 0, none⟩) := HF.at rfl; go_simp) ?_
    clear HF b
    intro b HF
    refine listF rfl HF rfl (by decide) (v := .int .i64 y.f1) (by have e41 : b.tmps[41]?.getD undef = .pointer (some ⟨g10, 1, none⟩) := HF.at rfl; go_simp) ?_
    clear HF b
    intro b HF
    clear x1
    show Code.wp _ _ _ _ _
    refine cutW (A := fun a_ w_ => w_ = w7 ∧ ∃ LA Lc, (Kd.int .i64).C w LA (listOf x y.f1).length (listOf x y.f1) ∧ Fr 73 a_ [(11, .slice LA (listOf x y.f1).length Lc), (10, .pointer (some ⟨g10, 0, none⟩)), (6, .pointer (some ⟨w.heap.size + 1, 0, none⟩))]) ?_ ?_
    · refine wp_block ?_
      refine wp_seq ?_
      refine wp_region_lit ?_
      by_cases k0 : y.f1 = 0
      · have d_ : (y.f1 == 0) = true := beq_iff_eq.2 k0
        refine listF rfl HF rfl (by decide) (v := .bool true) (by have e42 : b.tmps[42]?.getD undef = .int .i64 y.f1 := HF.at rfl; go_simp) ?_
        clear HF b
        intro b HF
        refine listF rfl HF rfl (by decide) (v := .bool true) (by have e44 : b.tmps[44]?.getD undef = .bool true := HF.at rfl; go_simp) ?_
        clear HF b
        intro b HF
        show Code.wp _ _ _ _ _
        refine wp_cond_true (HF.get rfl) ?_
        refine wp_region_lit ?_
        have xl : w7.cell? ⟨g8, 11, none⟩ = some (.slice B11 x.f1.length b11) := HA.out.cell 11
        refine listF rfl HF rfl (by decide) (v := .pointer (some ⟨g8, 11, none⟩)) (by have e8 : b.tmps[8]?.getD undef = .pointer (some ⟨g8, 0, none⟩) := HF.at rfl; go_simp) ?_
        clear HF b
        intro b HF
        refine listF rfl HF rfl (by decide) (v := .slice B11 x.f1.length b11) (by have e45 : b.tmps[45]?.getD undef = .pointer (some ⟨g8, 11, none⟩) := HF.at rfl; go_simp) ?_
        clear HF b
        intro b HF
        refine listF rfl HF rfl (by decide) (v := .slice B11 x.f1.length b11) (by have e46 : b.tmps[46]?.getD undef = .slice B11 x.f1.length b11 := HF.at rfl; go_simp) ?_
        clear HF b
        intro b HF
        have hl : listOf x y.f1 = x.f1 := by unfold listOf; rw [if_pos k0]
        exact ⟨rfl, B11, b11, by rw [hl]; exact C11.out, by rw [hl]; exact HF.sub _ (List.forall_mem_cons.2 ⟨rfl, (List.forall_mem_cons.2 ⟨rfl, (List.forall_mem_cons.2 ⟨rfl, by intro p_ hp_; cases hp_⟩)⟩)⟩)⟩
      · have d_ : (y.f1 == 0) = false := beq_eq_false_iff_ne.2 k0
        refine listF rfl HF rfl (by decide) (v := .bool false) (by have e42 : b.tmps[42]?.getD undef = .int .i64 y.f1 := HF.at rfl; go_simp) ?_
        clear HF b
        intro b HF
        refine listF rfl HF rfl (by decide) (v := .bool false) (by have e44 : b.tmps[44]?.getD undef = .bool false := HF.at rfl; go_simp) ?_
        clear HF b
        intro b HF
        show Code.wp _ _ _ _ _
        refine wp_cond_false (HF.get rfl) ?_
        clear d_
        refine wp_seq ?_
        refine wp_region_lit ?_
        by_cases k1 : y.f1 = 1
        · have d_ : (y.f1 == 1) = true := beq_iff_eq.2 k1
          refine listF rfl HF rfl (by decide) (v := .bool true) (by have e42 : b.tmps[42]?.getD undef = .int .i64 y.f1 := HF.at rfl; go_simp) ?_
          clear HF b
          intro b HF
          refine listF rfl HF rfl (by decide) (v := .bool true) (by have e48 : b.tmps[48]?.getD undef = .bool true := HF.at rfl; go_simp) ?_
          clear HF b
          intro b HF
          show Code.wp _ _ _ _ _
          refine wp_cond_true (HF.get rfl) ?_
          refine wp_region_lit ?_
          have xl : w7.cell? ⟨g8, 12, none⟩ = some (.slice B12 x.f2.length b12) := HA.out.cell 12
          refine listF rfl HF rfl (by decide) (v := .pointer (some ⟨g8, 12, none⟩)) (by have e8 : b.tmps[8]?.getD undef = .pointer (some ⟨g8, 0, none⟩) := HF.at rfl; go_simp) ?_
          clear HF b
          intro b HF
          refine listF rfl HF rfl (by decide) (v := .slice B12 x.f2.length b12) (by have e49 : b.tmps[49]?.getD undef = .pointer (some ⟨g8, 12, none⟩) := HF.at rfl; go_simp) ?_
          clear HF b
          intro b HF
          refine listF rfl HF rfl (by decide) (v := .slice B12 x.f2.length b12) (by have e50 : b.tmps[50]?.getD undef = .slice B12 x.f2.length b12 := HF.at rfl; go_simp) ?_
          clear HF b
          intro b HF
          have hl : listOf x y.f1 = x.f2 := by unfold listOf; rw [if_neg k0, if_pos k1]
          exact ⟨rfl, B12, b12, by rw [hl]; exact C12.out, by rw [hl]; exact HF.sub _ (List.forall_mem_cons.2 ⟨rfl, (List.forall_mem_cons.2 ⟨rfl, (List.forall_mem_cons.2 ⟨rfl, by intro p_ hp_; cases hp_⟩)⟩)⟩)⟩
        · have d_ : (y.f1 == 1) = false := beq_eq_false_iff_ne.2 k1
          refine listF rfl HF rfl (by decide) (v := .bool false) (by have e42 : b.tmps[42]?.getD undef = .int .i64 y.f1 := HF.at rfl; go_simp) ?_
          clear HF b
          intro b HF
          refine listF rfl HF rfl (by decide) (v := .bool false) (by have e48 : b.tmps[48]?.getD undef = .bool false := HF.at rfl; go_simp) ?_
          clear HF b
          intro b HF
          show Code.wp _ _ _ _ _
          refine wp_cond_false (HF.get rfl) ?_
          clear d_
          refine wp_seq ?_
          refine wp_region_lit ?_
          by_cases k2 : y.f1 = 2
          · have d_ : (y.f1 == 2) = true := beq_iff_eq.2 k2
            refine listF rfl HF rfl (by decide) (v := .bool true) (by have e42 : b.tmps[42]?.getD undef = .int .i64 y.f1 := HF.at rfl; go_simp) ?_
            clear HF b
            intro b HF
            refine listF rfl HF rfl (by decide) (v := .bool true) (by have e52 : b.tmps[52]?.getD undef = .bool true := HF.at rfl; go_simp) ?_
            clear HF b
            intro b HF
            show Code.wp _ _ _ _ _
            refine wp_cond_true (HF.get rfl) ?_
            refine wp_region_lit ?_
            have xl : w7.cell? ⟨g8, 13, none⟩ = some (.slice B13 x.f3.length b13) := HA.out.cell 13
            refine listF rfl HF rfl (by decide) (v := .pointer (some ⟨g8, 13, none⟩)) (by have e8 : b.tmps[8]?.getD undef = .pointer (some ⟨g8, 0, none⟩) := HF.at rfl; go_simp) ?_
            clear HF b
            intro b HF
            refine listF rfl HF rfl (by decide) (v := .slice B13 x.f3.length b13) (by have e53 : b.tmps[53]?.getD undef = .pointer (some ⟨g8, 13, none⟩) := HF.at rfl; go_simp) ?_
            clear HF b
            intro b HF
            refine listF rfl HF rfl (by decide) (v := .slice B13 x.f3.length b13) (by have e54 : b.tmps[54]?.getD undef = .slice B13 x.f3.length b13 := HF.at rfl; go_simp) ?_
            clear HF b
            intro b HF
            have hl : listOf x y.f1 = x.f3 := by unfold listOf; rw [if_neg k0, if_neg k1, if_pos k2]
            exact ⟨rfl, B13, b13, by rw [hl]; exact C13.out, by rw [hl]; exact HF.sub _ (List.forall_mem_cons.2 ⟨rfl, (List.forall_mem_cons.2 ⟨rfl, (List.forall_mem_cons.2 ⟨rfl, by intro p_ hp_; cases hp_⟩)⟩)⟩)⟩
          · have d_ : (y.f1 == 2) = false := beq_eq_false_iff_ne.2 k2
            refine listF rfl HF rfl (by decide) (v := .bool false) (by have e42 : b.tmps[42]?.getD undef = .int .i64 y.f1 := HF.at rfl; go_simp) ?_
            clear HF b
            intro b HF
            refine listF rfl HF rfl (by decide) (v := .bool false) (by have e52 : b.tmps[52]?.getD undef = .bool false := HF.at rfl; go_simp) ?_
            clear HF b
            intro b HF
            show Code.wp _ _ _ _ _
            refine wp_cond_false (HF.get rfl) ?_
            clear d_
            refine wp_seq ?_
            refine wp_region_lit ?_
            by_cases k3 : y.f1 = 3
            · have d_ : (y.f1 == 3) = true := beq_iff_eq.2 k3
              refine listF rfl HF rfl (by decide) (v := .bool true) (by have e42 : b.tmps[42]?.getD undef = .int .i64 y.f1 := HF.at rfl; go_simp) ?_
              clear HF b
              intro b HF
              refine listF rfl HF rfl (by decide) (v := .bool true) (by have e56 : b.tmps[56]?.getD undef = .bool true := HF.at rfl; go_simp) ?_
              clear HF b
              intro b HF
              show Code.wp _ _ _ _ _
              refine wp_cond_true (HF.get rfl) ?_
              refine wp_region_lit ?_
              have xl : w7.cell? ⟨g8, 14, none⟩ = some (.slice B14 x.f4.length b14) := HA.out.cell 14
              refine listF rfl HF rfl (by decide) (v := .pointer (some ⟨g8, 14, none⟩)) (by have e8 : b.tmps[8]?.getD undef = .pointer (some ⟨g8, 0, none⟩) := HF.at rfl; go_simp) ?_
              clear HF b
              intro b HF
              refine listF rfl HF rfl (by decide) (v := .slice B14 x.f4.length b14) (by have e57 : b.tmps[57]?.getD undef = .pointer (some ⟨g8, 14, none⟩) := HF.at rfl; go_simp) ?_
              clear HF b
              intro b HF
              refine listF rfl HF rfl (by decide) (v := .slice B14 x.f4.length b14) (by have e58 : b.tmps[58]?.getD undef = .slice B14 x.f4.length b14 := HF.at rfl; go_simp) ?_
              clear HF b
              intro b HF
              have hl : listOf x y.f1 = x.f4 := by unfold listOf; rw [if_neg k0, if_neg k1, if_neg k2, if_pos k3]
              exact ⟨rfl, B14, b14, by rw [hl]; exact C14.out, by rw [hl]; exact HF.sub _ (List.forall_mem_cons.2 ⟨rfl, (List.forall_mem_cons.2 ⟨rfl, (List.forall_mem_cons.2 ⟨rfl, by intro p_ hp_; cases hp_⟩)⟩)⟩)⟩
            · have d_ : (y.f1 == 3) = false := beq_eq_false_iff_ne.2 k3
              refine listF rfl HF rfl (by decide) (v := .bool false) (by have e42 : b.tmps[42]?.getD undef = .int .i64 y.f1 := HF.at rfl; go_simp) ?_
              clear HF b
              intro b HF
              refine listF rfl HF rfl (by decide) (v := .bool false) (by have e56 : b.tmps[56]?.getD undef = .bool false := HF.at rfl; go_simp) ?_
              clear HF b
              intro b HF
              show Code.wp _ _ _ _ _
              refine wp_cond_false (HF.get rfl) ?_
              refine wp_skip ?_
              have hl : listOf x y.f1 = [] := by unfold listOf; rw [if_neg k0, if_neg k1, if_neg k2, if_neg k3]
              exact ⟨rfl, none, 0, by rw [hl]; exact Kd.C_nil _ _, by rw [hl]; exact HF.sub _ (List.forall_mem_cons.2 ⟨rfl, (List.forall_mem_cons.2 ⟨rfl, (List.forall_mem_cons.2 ⟨rfl, by intro p_ hp_; cases hp_⟩)⟩)⟩)⟩
    · rintro a_ w_ ⟨rfl, LA, Lc, hL, hf⟩
      clear HF b
      obtain ⟨b, HF⟩ : ∃ b, Fr 73 b [(11, .slice LA (listOf x y.f1).length Lc), (10, .pointer (some ⟨g10, 0, none⟩)), (6, .pointer (some ⟨w.heap.size + 1, 0, none⟩))] ∧ b = a_ := ⟨a_, hf, rfl⟩
      obtain ⟨HF, rfl⟩ := HF
      clear hf
      have HLL := Aside0.mk hL
      clear hL
      show Code.wp _ _ _ _ _
      refine wp_seq ?_
      refine wp_seq ?_
      refine wp_region_lit ?_
      have x2 : w_.cell? ⟨g10, 2, none⟩ = some (.int .i64 y.f2) := HG.out.cell 2
      refine listF rfl HF rfl (by decide) (v := .slice LA (listOf x y.f1).length Lc) (by have e11 : b.tmps[11]?.getD undef = .slice LA (listOf x y.f1).length Lc := HF.at rfl; go_simp) ?_
      clear HF b
      intro b HF
      refine listF rfl HF rfl (by decide) (v := .pointer (some ⟨g10, 2, none⟩)) (by have e10 : b.tmps[10]?.getD undef = .pointer (some ⟨g10, 0, none⟩) := HF.at rfl; go_simp) ?_
      clear HF b
      intro b HF
      refine listF rfl HF rfl (by decide) (v := .int .i64 y.f2) (by have e60 : b.tmps[60]?.getD undef = .pointer (some ⟨g10, 2, none⟩) := HF.at rfl; go_simp) ?_
      clear HF b
      intro b HF
      clear x2
      refine listC rfl HF rfl (by decide) (fun K_ hK_ => ?_)
      have e59 : b.tmps[59]?.getD undef = .slice LA (listOf x y.f1).length Lc := HF.at rfl
      have e61 : b.tmps[61]?.getD undef = .int .i64 y.f2 := HF.at rfl
      go_simp
      refine (hasI_calls w_ LA (listOf x y.f1).length Lc y.f2).mono ?_
      rintro e wz ⟨rfl, hwz⟩
      rw [hwz]
      clear hwz wz
      refine hK_.out _ _ ?_
      clear hK_ K_ e59 e61 HF b
      intro b HF
      by_cases hin : 0 ≤ y.f2 ∧ y.f2 < ((listOf x y.f1).length : Int)
      · rw [show (decide (0 ≤ y.f2) && decide (y.f2 < ((listOf x y.f1).length : Int))) = true by rw [decide_eq_true hin.1, decide_eq_true hin.2]; rfl] at HF
        have HIN := Aside0.mk hin
        clear hin
        refine listF rfl HF rfl (by decide) (v := .bool false) (by have e62 : b.tmps[62]?.getD undef = .bool true := HF.at rfl; go_simp) ?_
        clear HF b
        intro b HF
        show Code.wp _ _ _ _ _
        refine wp_cond_false (HF.get rfl) ?_
        refine wp_skip ?_
        show Code.wp _ _ _ _ _
        refine wp_seq ?_
        replace HF := HF.sub [(11, .slice LA (listOf x y.f1).length Lc), (10, .pointer (some ⟨g10, 0, none⟩)), (6, .pointer (some ⟨w.heap.size + 1, 0, none⟩))] (List.forall_mem_cons.2 ⟨rfl, (List.forall_mem_cons.2 ⟨rfl, (List.forall_mem_cons.2 ⟨rfl, by intro p_ hp_; cases hp_⟩)⟩)⟩)
        obtain ⟨al, eL, ql⟩ := Kd.at_int HLL.out y.f2 HIN.out.1 HIN.out.2
        cases eL
        replace ql := (HB.out.cell (World.block_lt_of_cell? w _ ql)).trans ql
        have hi0 : (0 : Int) ≤ y.f2 := HIN.out.1
        have hi1 : y.f2 < ((listOf x y.f1).length : Int) := HIN.out.2
        have d5 : decide (0 ≤ y.f2) = true := decide_eq_true hi0
        have d6 : decide (y.f2 < ((listOf x y.f1).length : Int)) = true := decide_eq_true hi1
        obtain ⟨w8, hw8⟩ : ∃ w8, w8 = w_.drew := ⟨_, rfl⟩
        have HG8' := Aside0.mk (show Row w8 g10 74 #[.string y.f0, .int .i64 y.f1, .int .i64 y.f2] by rw [hw8]; exact HG.out)
        have HZ8 := Aside0.mk (show Row w8 (w.heap.size + 1) 67 #[.int .i64 0, .int .i64 0] by rw [hw8]; exact HZ.out)
        have HB8 := Aside0.mk (show Below w.heap.size w w8 by rw [hw8]; exact HB.out.drew)
        have HQ8 := Aside0.mk (show w8.cell? (al.add y.f2.toNat) = some (.int .i64 (rd (listOf x y.f1) y.f2)) by rw [hw8]; exact ql)
        clear ql
        refine start_ (n := 10) (S := fun w' => Row w' g10 74 #[.string y.f0, .int .i64 y.f1, .int .i64 y.f2] ∧ w'.cell? (al.add y.f2.toNat) = some (.int .i64 (rd (listOf x y.f1) y.f2))) (ds := [8, 9]) (bt 10 0) (by kernel_rfl) rfl (by kernel_rfl) (by rw [← hw8]; exact ⟨HG8'.out, HQ8.out⟩) (fun hHeld => ?_)
        refine with_tabW exp.tab20 exp.bits20 (fun HT_ HW_ => ?_)
        clear hHeld
        rw [← hw8]
        clear hw8
        refine pureD (i := 0) (k := 65) (v := .pointer (some ⟨g10, 1, none⟩)) (bt 10 1) rfl rfl (any_of HT_.out (by kernel_rfl)) (fun _ _ _ h => h) HF rfl (by decide) (by intro wq; have e10 : b.tmps[10]?.getD undef = .pointer (some ⟨g10, 0, none⟩) := HF.at rfl; go_simp) ?_
        clear HF b
        intro b HF
        refine takeD (i := 1) (k := 66) (v := .int .i64 y.f1) (bt 10 3) rfl rfl (take_ofW HT_.out HW_.out (by kernel_rfl)) (fun _ _ _ h => h) HF rfl (by decide) (by intro wq hq; have e65 : b.tmps[65]?.getD undef = .pointer (some ⟨g10, 1, none⟩) := HF.at rfl; have c_ : wq.cell? ⟨g10, 1, none⟩ = some (.int .i64 y.f1) := hq.1.cell 1; go_simp) ⟨HG8'.out, HQ8.out⟩ ?_
        clear HF b
        intro b HF
        refine pureD (i := 2) (k := 67) (v := .slice (some al) (listOf x y.f1).length Lc) (bt 10 7) rfl rfl (any_of HT_.out (by kernel_rfl)) (fun _ _ _ h => h) HF rfl (by decide) (by intro wq; have e11 : b.tmps[11]?.getD undef = .slice (some al) (listOf x y.f1).length Lc := HF.at rfl; go_simp) ?_
        clear HF b
        intro b HF
        refine pureD (i := 3) (k := 68) (v := .pointer (some ⟨g10, 2, none⟩)) (bt 10 15) rfl rfl (any_of HT_.out (by kernel_rfl)) (fun _ _ _ h => h) HF rfl (by decide) (by intro wq; have e10 : b.tmps[10]?.getD undef = .pointer (some ⟨g10, 0, none⟩) := HF.at rfl; go_simp) ?_
        clear HF b
        intro b HF
        refine takeD (i := 4) (k := 69) (v := .int .i64 y.f2) (bt 10 31) rfl rfl (take_ofW HT_.out HW_.out (by kernel_rfl)) (fun _ _ _ h => h) HF rfl (by decide) (by intro wq hq; have e68 : b.tmps[68]?.getD undef = .pointer (some ⟨g10, 2, none⟩) := HF.at rfl; have c_ : wq.cell? ⟨g10, 2, none⟩ = some (.int .i64 y.f2) := hq.1.cell 2; go_simp) ⟨HG8'.out, HQ8.out⟩ ?_
        clear HF b
        intro b HF
        refine pureD (i := 5) (k := 70) (v := .pointer (some (al.add y.f2.toNat))) (bt 10 63) rfl rfl (any_of HT_.out (by kernel_rfl)) (fun _ _ _ h => h) HF rfl (by decide) (by intro wq; have e67 : b.tmps[67]?.getD undef = .slice (some al) (listOf x y.f1).length Lc := HF.at rfl; have e69 : b.tmps[69]?.getD undef = .int .i64 y.f2 := HF.at rfl; go_simp) ?_
        clear HF b
        intro b HF
        refine takeD (i := 6) (k := 71) (v := .int .i64 (rd (listOf x y.f1) y.f2)) (bt 10 127) rfl rfl (take_ofW HT_.out HW_.out (by kernel_rfl)) (fun _ _ _ h => h) HF rfl (by decide) (by intro wq hq; have e70 : b.tmps[70]?.getD undef = .pointer (some (al.add y.f2.toNat)) := HF.at rfl; have c_ := hq.2; go_simp) ⟨HG8'.out, HQ8.out⟩ ?_
        clear HF b
        intro b HF
        refine pureD (i := 7) (k := 72) (v := .agg #[.int .i64 y.f1, .int .i64 (rd (listOf x y.f1) y.f2)]) (bt 10 255) rfl rfl (any_of HT_.out (by kernel_rfl)) (fun _ _ _ h => h) HF rfl (by decide) (by intro wq; have e66 : b.tmps[66]?.getD undef = .int .i64 y.f1 := HF.at rfl; have e71 : b.tmps[71]?.getD undef = .int .i64 (rd (listOf x y.f1) y.f2) := HF.at rfl; go_simp) ?_
        clear HF b
        intro b HF
        refine storeD (i := 8) (bt 10 511) rfl rfl (one_of HT_.out (by kernel_rfl)) (by decide) HF rfl (fun K_ hK_ => ?_)
        have e72 : b.tmps[72]?.getD undef = .agg #[.int .i64 y.f1, .int .i64 (rd (listOf x y.f1) y.f2)] := HF.at rfl
        have e6 : b.tmps[6]?.getD undef = .pointer (some ⟨w.heap.size + 1, 0, none⟩) := HF.at rfl
        have y0 : w8.cell? ⟨w.heap.size + 1, 0, none⟩ = some (.int .i64 0) := HZ8.out.cell 0; have z0 := HZ8.out.frozen 0
        have y1 : w8.cell? ⟨w.heap.size + 1, 1, none⟩ = some (.int .i64 0) := HZ8.out.cell 1; have z1 := HZ8.out.frozen 1
        go_simp
        refine hK_.out ((w8.setCell ⟨w.heap.size + 1, 0, none⟩ (.int .i64 y.f1)).setCell ⟨w.heap.size + 1, 1, none⟩ (.int .i64 (rd (listOf x y.f1) y.f2))) ?_
        have HR9 := Aside0.mk ((HZ8.out.put_ 0 (.int .i64 y.f1)).put_ 1 (.int .i64 (rd (listOf x y.f1) y.f2)))
        have HB9 := Aside0.mk ((HB8.out.setCell (p := ⟨w.heap.size + 1, 0, none⟩) (Nat.le_succ _) (.int .i64 y.f1)).setCell (p := ⟨w.heap.size + 1, 1, none⟩) (Nat.le_succ _) (.int .i64 (rd (listOf x y.f1) y.f2)))
        clear hK_ K_ e72 e6 y0 y1 z0 z1 HZ8 HB8 HG8' HQ8
        generalize (w8.setCell ⟨w.heap.size + 1, 0, none⟩ (.int .i64 y.f1)).setCell ⟨w.heap.size + 1, 1, none⟩ (.int .i64 (rd (listOf x y.f1) y.f2)) = wz at HR9 HB9 ⊢
        refine pureD (i := 9) (k := 7) (v := .bool true) (bt 10 1023) rfl rfl (any_of HT_.out (by kernel_rfl)) (fun _ _ _ h => h) HF rfl (by decide) (by intro wq; go_simp) ?_
        clear HF b
        intro b HF
        refine done_ (done_of HT_.out (by kernel_rfl)) ?_
        show Code.wp _ _ _ _ _
        refine wp_ret ?_
        try simp only [Exit.inBlock, Exit.then]
        refine bodyPost_ret (results_ct (cs := #[.int .i64 y.f1, .int .i64 (rd (listOf x y.f1) y.f2)]) rfl _ _ (w.heap.size + 1) 67 _ _ (HF.get (k := 6) rfl) HR9.out Try.underlying67 rfl (by kernel_rfl)) HF.none ?_
        refine ⟨y.f1, rd (listOf x y.f1) y.f2, true, by rw [show b.tmps.getD 7 undef = .bool true from HF.get (k := 7) rfl], ⟨i, HFI.out, .inr ⟨HI0.out, ?_⟩⟩, HB9.out⟩
        rw [← HY.out]
        exact .inr ⟨hi0, hi1, rfl, rfl, rfl⟩
      · rw [show (decide (0 ≤ y.f2) && decide (y.f2 < ((listOf x y.f1).length : Int))) = false by rw [Bool.and_eq_false_iff]; by_cases h0 : 0 ≤ y.f2; exact .inr (decide_eq_false (fun h1 => hin ⟨h0, h1⟩)); exact .inl (decide_eq_false h0)] at HF
        have HIN := Aside0.mk hin
        clear hin
        refine listF rfl HF rfl (by decide) (v := .bool true) (by have e62 : b.tmps[62]?.getD undef = .bool false := HF.at rfl; go_simp) ?_
        clear HF b
        intro b HF
        show Code.wp _ _ _ _ _
        refine wp_cond_true (HF.get rfl) ?_
        refine wp_seq ?_
        refine wp_region_lit ?_
        refine listF rfl HF rfl (by decide) (v := .agg #[.int .i64 0, .int .i64 0]) (by go_simp) ?_
        clear HF b
        intro b HF
        have y0 : w_.cell? ⟨w.heap.size + 1, 0, none⟩ = some (.int .i64 0) := HZ.out.cell 0; have z0 := HZ.out.frozen 0
        have y1 : w_.cell? ⟨w.heap.size + 1, 1, none⟩ = some (.int .i64 0) := HZ.out.cell 1; have z1 := HZ.out.frozen 1
        refine listS (w1 := (w_.setCell ⟨w.heap.size + 1, 0, none⟩ (.int .i64 0)).setCell ⟨w.heap.size + 1, 1, none⟩ (.int .i64 0)) rfl HF rfl (by have e64 : b.tmps[64]?.getD undef = .agg #[.int .i64 0, .int .i64 0] := HF.at rfl; have e6 : b.tmps[6]?.getD undef = .pointer (some ⟨w.heap.size + 1, 0, none⟩) := HF.at rfl; go_simp) ?_
        have HR9 := Aside0.mk ((HZ.out.put_ 0 (.int .i64 0)).put_ 1 (.int .i64 0))
        have HB9 := Aside0.mk ((HB.out.setCell (p := ⟨w.heap.size + 1, 0, none⟩) (Nat.le_succ _) (.int .i64 0)).setCell (p := ⟨w.heap.size + 1, 1, none⟩) (Nat.le_succ _) (.int .i64 0))
        clear y0 y1 z0 z1
        generalize (w_.setCell ⟨w.heap.size + 1, 0, none⟩ (.int .i64 0)).setCell ⟨w.heap.size + 1, 1, none⟩ (.int .i64 0) = wz at HR9 HB9 ⊢
        refine listF rfl HF rfl (by decide) (v := .bool false) (by go_simp) ?_
        clear HF b
        intro b HF
        show Code.wp _ _ _ _ _
        refine wp_ret ?_
        try simp only [Exit.inBlock, Exit.then]
        refine bodyPost_ret (results_ct (cs := #[.int .i64 0, .int .i64 0]) rfl _ _ (w.heap.size + 1) 67 _ _ (HF.get (k := 6) rfl) HR9.out Try.underlying67 rfl (by kernel_rfl)) HF.none ?_
        refine ⟨0, 0, false, by rw [show b.tmps.getD 7 undef = .bool false from HF.get (k := 7) rfl], ⟨i, HFI.out, .inr ⟨HI0.out, ?_⟩⟩, HB9.out⟩
        rw [← HY.out]
        exact .inl ⟨HIN.out, rfl, rfl, rfl⟩
end Go.Proofs.Ytbelijoggbblgaa.Ex
