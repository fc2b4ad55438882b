import Derived.Test.YtbelijoggbblgaaSp1
namespace Go.Proofs.Ytbelijoggbblgaa.Sp
open Go.RowKit Go.Proofs.YtbelijoggbblgaaW.PrintWords Go.Proofs.YtbelijoggbblgaaW.PrintLast Go.Proofs.YtbelijoggbblgaaW.PrintMore Go.Proofs.Ytbelijoggbblgaa.PStorePlays Go.Proofs.Ytbelijoggbblgaa.St
set_option linter.unusedVariables false
set_option linter.unusedSimpArgs false
theorem proc_f (F : List S32) (n : Int) : api_Proc.f F n = some (decide (0 ≤ n ∧ n < F.length)) := by
  unfold api_Proc.f
  by_cases h : 0 ≤ n <;> by_cases h2 : n < (F.length : Int) <;> simp [h, h2]
theorem cell_alloc {w : World} {a : Addr} {v : Value} (h : w.cell? a = some v) (o : Obj) : (w.alloc o).cell? a = some v := (World.cell?_of_block (Below.heap_alloc w o a.block (World.block_lt_of_cell? w a h))).trans h
set_option maxHeartbeats 2000000 in
theorem func_no {w : World} {base s : Nat} {ok : Nat → Prop} {vT vM vG : Value} {F : List S32} {T M : List (List Value)} {G : List S41} {AF : Option Addr} {cF : Nat} (h : St w base s ok (.slice AF F.length cF) vT vM vG F T M G) (n : Int) (hn : ¬ (0 ≤ n ∧ n < F.length)) :
    Calls Try.prog 12 #[.pointer (some ⟨s, 0, none⟩), .int .i64 n] w fun e w' => e = .returned (.tuple #[.agg #[.slice none 0 0, .slice none 0 0, .int .i64 0, .int .i64 0, .int .u64 0], .bool false]) ∧ Below w.heap.size w w' := by
  obtain ⟨A', c', e1, hlc, hC⟩ := Kd.R_reads h.f
  simp only [Value.slice.injEq] at e1
  obtain ⟨rfl, _, rfl⟩ := e1
  have hf := proc_f F n
  rw [decide_eq_false hn] at hf
  have p0 := h.row.cell 0
  simp only [List.getElem?_toArray, List.getElem?_cons_zero, List.getElem?_cons_succ] at p0
  have p1 := (h.row.alloc (.cells #[.slice none 0 0, .slice none 0 0, .int .i64 0, .int .i64 0, .int .u64 0] 32)).cell 0
  simp only [List.getElem?_toArray, List.getElem?_cons_zero, List.getElem?_cons_succ] at p1
  have HC := Aside0.mk (fun W (hB : Below w.heap.size w W) => api_Proc.calls AF cF F n false W (Kd.C_below hC hB) hlc hf)
  clear h hC hf
  go_enter Try.func12, Try.ntmps12
  go_wp2_with (go_at_call 23; (with_reducible refine (HC.out _ (below_alloc (Below.refl _ _) _)).mono ?_); rintro e w1 ⟨rfl, ⟨nd, rfl⟩⟩)
  have r1 : Row ((w.alloc (.cells #[.slice none 0 0, .slice none 0 0, .int .i64 0, .int .i64 0, .int .u64 0] 32)).drewN nd) w.heap.size 32 #[.slice none 0 0, .slice none 0 0, .int .i64 0, .int .i64 0, .int .u64 0] := Row.made w 32 _ rfl
  have r2 := ((((r1.put_ 0 (.slice none 0 0)).put_ 1 (.slice none 0 0)).put_ 2 (.int .i64 0)).put_ 3 (.int .i64 0)).put_ 4 (.int .u64 0)
  have b1 : Below w.heap.size w ((w.alloc (.cells #[.slice none 0 0, .slice none 0 0, .int .i64 0, .int .i64 0, .int .u64 0] 32)).drewN nd) := pw_below_drewN (below_alloc (Below.refl _ _) _) _
  have b2 := ((((b1.setCell (p := ⟨w.heap.size, 0, none⟩) (Nat.le_refl _) (.slice none 0 0)).setCell (p := ⟨w.heap.size, 1, none⟩) (Nat.le_refl _) (.slice none 0 0)).setCell (p := ⟨w.heap.size, 2, none⟩) (Nat.le_refl _) (.int .i64 0)).setCell (p := ⟨w.heap.size, 3, none⟩) (Nat.le_refl _) (.int .i64 0)).setCell (p := ⟨w.heap.size, 4, none⟩) (Nat.le_refl _) (.int .u64 0)
  try simp only [Exit.inBlock, Exit.then]
  refine bodyPost_ret (results_ct rfl _ _ w.heap.size 32 _ _ _ rfl r2 Try.underlying32 rfl (by kernel_rfl)) rfl ?_
  exact ⟨rfl, b2⟩
set_option maxHeartbeats 4000000 in
theorem func_in {w : World} {base s : Nat} {ok : Nat → Prop} {vT vM vG : Value} {F : List S32} {T M : List (List Value)} {G : List S41} {AF : Option Addr} {cF : Nat} (h : St w base s ok (.slice AF F.length cF) vT vM vG F T M G) (n : Nat) (hn : n < F.length) (hl : F.length ≤ 100) (x : S32) (hx : F.getD n z32 = x) (k0 : x.f0.f0.length * 8 ≤ 140737488351232) (k1 : x.f0.f1.length * 8 ≤ 140737488351232) :
    Calls Try.prog 12 #[.pointer (some ⟨s, 0, none⟩), .int .i64 n] w fun e w' => ∃ A1 c1 A2 c2, e = .returned (.tuple #[.agg #[.slice A1 x.f0.f0.length c1, .slice A2 x.f0.f1.length c2, .int .i64 x.f1, .int .i64 x.f2, .int .u64 x.f3], .bool true]) ∧
      I64.R 3 w' w.heap.size (fun _ => True) (.slice A1 x.f0.f0.length c1) x.f0.f0 ∧ I64.R 3 w' w.heap.size (fun _ => True) (.slice A2 x.f0.f1.length c2) x.f0.f1 ∧ Below w.heap.size w w' := by
  obtain ⟨A', c', e1, hlc, hC⟩ := Kd.R_reads h.f
  simp only [Value.slice.injEq] at e1
  obtain ⟨rfl, _, rfl⟩ := e1
  have hf := proc_f F n
  rw [decide_eq_true (show 0 ≤ (n : Int) ∧ (n : Int) < F.length by omega)] at hf
  have p0 := h.row.cell 0
  simp only [List.getElem?_toArray, List.getElem?_cons_zero, List.getElem?_cons_succ] at p0
  obtain ⟨ad, A0, c0, A1, c1, rfl, d0, d1, d2, d3, d4, l0, g0, l1, g1⟩ := at_T32 hC n (by omega) (by omega)
  simp only [rd_T32, Int.toNat_natCast, hx] at d0 d1 d2 d3 d4 l0 g0 l1 g1
  have p1 := (h.row.alloc (.cells #[.slice none 0 0, .slice none 0 0, .int .i64 0, .int .i64 0, .int .u64 0] 32)).cell 0
  simp only [List.getElem?_toArray, List.getElem?_cons_zero, List.getElem?_cons_succ] at p1
  have D0 := cell_alloc d0 (.cells #[.slice none 0 0, .slice none 0 0, .int .i64 0, .int .i64 0, .int .u64 0] 32)
  have D1 := cell_alloc d1 (.cells #[.slice none 0 0, .slice none 0 0, .int .i64 0, .int .i64 0, .int .u64 0] 32)
  have D2 := cell_alloc d2 (.cells #[.slice none 0 0, .slice none 0 0, .int .i64 0, .int .i64 0, .int .u64 0] 32)
  have D3 := cell_alloc d3 (.cells #[.slice none 0 0, .slice none 0 0, .int .i64 0, .int .i64 0, .int .u64 0] 32)
  have D4 := cell_alloc d4 (.cells #[.slice none 0 0, .slice none 0 0, .int .i64 0, .int .i64 0, .int .u64 0] 32)
  have HC := Aside0.mk (fun W (hB : Below w.heap.size w W) => api_Proc.calls (some ad) cF F n true W (Kd.C_below hC hB) hlc hf)
  have HP := Aside0.mk (fun W (hB : Below w.heap.size w W) => copied_calls (Kd.C_below g0 hB) l0 k0 (Kd.C_below g1 hB) l1 k1)
  have i0 : (0 : Int) ≤ n := by omega
  have i1 : (n : Int) < F.length := by omega
  clear h hC hf hx g0 g1 k0 k1 d0 d1 d2 d3 d4 p0
  go_enter Try.func12, Try.ntmps12
  go_wp2_with (go_at_call 23; (with_reducible refine (HC.out _ (below_alloc (Below.refl _ _) _)).mono ?_); rintro e w1 ⟨rfl, ⟨nd, rfl⟩⟩)
  obtain ⟨w2, hw2⟩ : ∃ w2, w2 = (((w.alloc (.cells #[.slice none 0 0, .slice none 0 0, .int .i64 0, .int .i64 0, .int .u64 0] 32)).drewN nd).alloc (.cells #[.slice A0 x.f0.f0.length c0, .slice A1 x.f0.f1.length c1, .int .i64 x.f1, .int .i64 x.f2, .int .u64 x.f3] 32)) := ⟨_, rfl⟩
  rw [← hw2]
  have rz : Row w2 w.heap.size 32 #[.slice none 0 0, .slice none 0 0, .int .i64 0, .int .i64 0, .int .u64 0] := by
    rw [hw2]; exact Row.alloc (w := (w.alloc (.cells #[.slice none 0 0, .slice none 0 0, .int .i64 0, .int .i64 0, .int .u64 0] 32)).drewN nd) (Row.made w 32 _ rfl) _
  have rq : Row w2 (w.heap.size + 1) 32 #[.slice A0 x.f0.f0.length c0, .slice A1 x.f0.f1.length c1, .int .i64 x.f1, .int .i64 x.f2, .int .u64 x.f3] := by
    rw [hw2]; exact Row.made _ _ _ (by simp)
  have b2 : Below w.heap.size w w2 := by rw [hw2]; exact below_alloc (pw_below_drewN (below_alloc (Below.refl _ _) _) _) _
  have s2 : w.heap.size + 2 ≤ w2.heap.size := by rw [hw2]; simp
  clear hw2 D0 D1 D2 D3 D4 p1
  go_wp2_with (go_at_call 22; (with_reducible refine (HP.out _ b2).mono ?_); rintro e w3 ⟨B0, e0, B1, e1, rfl, hA, hB, hBel⟩; have rz3 := rz.below hBel (by omega); have rq3 := rq.below hBel (by omega); have b3 := b2.trans (below_mono hBel b2.size); have hA3 := Aside0.mk hA; have hB3 := Aside0.mk hB; clear hA hB hBel rz rq b2; have q0 := rq3.cell 0; have q1 := rq3.cell 1; have z0 := rq3.frozen 0; have z1 := rq3.frozen 1; have r4 := (rq3.put_ 0 (.slice B0 x.f0.f0.length e0)).put_ 1 (.slice B1 x.f0.f1.length e1); have rz4 := (rz3.off (p := ⟨w.heap.size + 1, 0, none⟩) (by simp) (.slice B0 x.f0.f0.length e0)).off (p := ⟨w.heap.size + 1, 1, none⟩) (by simp) (.slice B1 x.f0.f1.length e1); have y0 := r4.cell 0; have y1 := r4.cell 1; have y2 := r4.cell 2; have y3 := r4.cell 3; have y4 := r4.cell 4; have u0 := rz4.cell 0; have u1 := rz4.cell 1; have u2 := rz4.cell 2; have u3 := rz4.cell 3; have u4 := rz4.cell 4; have v0 := rz4.frozen 0; have v1 := rz4.frozen 1; have v2 := rz4.frozen 2; have v3 := rz4.frozen 3; have v4 := rz4.frozen 4; simp only [List.getElem?_toArray, List.getElem?_cons_zero, List.getElem?_cons_succ, List.setIfInBounds_toArray, List.set_cons_zero, List.set_cons_succ] at q0 q1 y0 y1 y2 y3 y4 u0 u1 u2 u3 u4)
  have r5 := ((((rz4.put_ 0 (.slice B0 x.f0.f0.length e0)).put_ 1 (.slice B1 x.f0.f1.length e1)).put_ 2 (.int .i64 x.f1)).put_ 3 (.int .i64 x.f2)).put_ 4 (.int .u64 x.f3)
  have b5 := ((((((b3.setCell (p := ⟨w.heap.size + 1, 0, none⟩) (Nat.le_succ _) (.slice B0 x.f0.f0.length e0)).setCell (p := ⟨w.heap.size + 1, 1, none⟩) (Nat.le_succ _) (.slice B1 x.f0.f1.length e1)).setCell (p := ⟨w.heap.size, 0, none⟩) (Nat.le_refl _) (.slice B0 x.f0.f0.length e0)).setCell (p := ⟨w.heap.size, 1, none⟩) (Nat.le_refl _) (.slice B1 x.f0.f1.length e1)).setCell (p := ⟨w.heap.size, 2, none⟩) (Nat.le_refl _) (.int .i64 x.f1)).setCell (p := ⟨w.heap.size, 3, none⟩) (Nat.le_refl _) (.int .i64 x.f2)).setCell (p := ⟨w.heap.size, 4, none⟩) (Nat.le_refl _) (.int .u64 x.f3)
  have past : ∀ {v : Value} {xs : List Int}, I64.R 3 w3 w2.heap.size (fun _ => True) v xs → I64.R 3 (((((((w3.setCell ⟨w.heap.size + 1, 0, none⟩ (.slice B0 x.f0.f0.length e0)).setCell ⟨w.heap.size + 1, 1, none⟩ (.slice B1 x.f0.f1.length e1)).setCell ⟨w.heap.size, 0, none⟩ (.slice B0 x.f0.f0.length e0)).setCell ⟨w.heap.size, 1, none⟩ (.slice B1 x.f0.f1.length e1)).setCell ⟨w.heap.size, 2, none⟩ (.int .i64 x.f1)).setCell ⟨w.heap.size, 3, none⟩ (.int .i64 x.f2)).setCell ⟨w.heap.size, 4, none⟩ (.int .u64 x.f3)) w.heap.size (fun _ => True) v xs := by
    intro v xs hR
    refine Kd.R_lower (base := w2.heap.size) ?_ (by omega)
    exact R_past (R_past (R_past (R_past (R_past (R_past (R_past hR (p := ⟨_, 0, none⟩) (by simp; omega) _) (p := ⟨_, 1, none⟩) (by simp; omega) _) (p := ⟨_, 0, none⟩) (by simp; omega) _) (p := ⟨_, 1, none⟩) (by simp; omega) _) (p := ⟨_, 2, none⟩) (by simp; omega) _) (p := ⟨_, 3, none⟩) (by simp; omega) _) (p := ⟨_, 4, none⟩) (by simp; omega) _
  refine bodyPost_ret (results_ct rfl _ _ w.heap.size 32 _ _ _ rfl r5 Try.underlying32 rfl (by kernel_rfl)) rfl ?_
  exact ⟨B0, e0, B1, e1, rfl, past hA3.out, past hB3.out, b5⟩
end Go.Proofs.Ytbelijoggbblgaa.Sp
