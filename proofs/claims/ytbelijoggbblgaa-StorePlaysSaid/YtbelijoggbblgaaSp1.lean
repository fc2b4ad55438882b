import Derived.Test.YtbelijoggbblgaaSp0
namespace Go.Proofs.Ytbelijoggbblgaa.Sp
open Go.RowKit Go.Proofs.YtbelijoggbblgaaW.PrintWords Go.Proofs.YtbelijoggbblgaaW.PrintLast Go.Proofs.YtbelijoggbblgaaW.PrintMore Go.Proofs.Ytbelijoggbblgaa.PStorePlays Go.Proofs.Ytbelijoggbblgaa.St
set_option linter.unusedVariables false
set_option linter.unusedSimpArgs false
set_option maxHeartbeats 2000000 in
theorem addGlobal_calls {w : World} {base s : Nat} {ok : Nat → Prop} {vF vT vM : Value} {F : List S32} {T M : List (List Value)} {G : List S41} {AG : Option Addr} {cG : Nat} (h : St w base s ok vF vT vM (.slice AG G.length cG) F T M G) (hb : base ≤ w.heap.size) (hn : G.length ≤ 100) (ty : Int) (mu : Bool) (v : Int) :
    Calls Try.prog 11 #[.pointer (some ⟨s, 0, none⟩), .agg #[.int .i64 ty, .bool mu, .int .u64 v]] w fun e w' => e = .returned (.int .i64 G.length) ∧ ∃ AG' cG', St w' base s (fun k => ok k ∨ w.heap.size ≤ k) vF vT vM (.slice AG' (G.length + 1) cG') F T M (G ++ [⟨ty, mu, v⟩]) ∧ Only w w' (fun k => k = s ∨ blk AG = some k) := by
  have hlt : ∀ k, blk AG = some k → k < w.heap.size := fun k hk => Kd.R_lt h.g k (by rw [ownBlock_slice]; exact hk)
  have hS2 : St (w.alloc (.cells #[.int .i64 ty, .bool mu, .int .u64 v] 41)).drew base s ok vF vT vM (.slice AG G.length cG) F T M G := (h.alloc _).drew
  have r2 : Row (w.alloc (.cells #[.int .i64 ty, .bool mu, .int .u64 v] 41)) w.heap.size 41 #[.int .i64 ty, .bool mu, .int .u64 v] := Row.made _ _ _ rfl
  have p0 := (h.alloc (.cells #[.int .i64 ty, .bool mu, .int .u64 v] 41)).row.cell 3
  have p7 := ((h.alloc (.cells #[.int .i64 ty, .bool mu, .int .u64 v] 41)).row.alloc (.cells #[.int .i64 ty, .bool mu, .int .u64 v] 41)).cell 3
  simp only [List.getElem?_toArray, List.getElem?_cons_zero, List.getElem?_cons_succ] at p0 p7
  have p2 := r2.cell 0
  have p3 := r2.cell 1
  have p4 := r2.cell 2
  simp only [List.getElem?_toArray, List.getElem?_cons_zero, List.getElem?_cons_succ] at p2 p3 p4
  clear h r2 hlt
  go_enter Try.func11, Try.ntmps11
  go_wp2
  obtain ⟨w2, hw2⟩ : ∃ w2, w2 = w.alloc (.cells #[.int .i64 ty, .bool mu, .int .u64 v] 41) := ⟨_, rfl⟩
  rw [← hw2] at p0 p2 p3 p4 p7 hS2 ⊢
  have hb2 : Below w.heap.size w w2 := by rw [hw2]; exact below_alloc (Below.refl _ _) _
  have HS := Aside0.mk hS2
  have HBe := Aside0.mk hb2
  clear hw2 hS2 hb2
  go_region_law
    (first
      | (refine Kd.R_append_step (W := w2.drew) k41 base (by rfl) (.tmp 9) (.tmp 11) 80 41 (.agg #[.int .i64 0, .bool false, .int .u64 0]) 24 rfl Try.underlying80 (by kernel_rfl) rfl (by decide) (by decide) (.slice AG G.length cG) G ⟨ty, mu, v⟩ [.int .i64 ty, .bool mu, .int .u64 v] (fun k => ok k ∨ w.heap.size ≤ k) (fun _ => False) rfl (by rfl) (k41_mkM _ _ _ _) (fun k hk => hk.elim) (fun k hk => .inr (Nat.le_trans HBe.out.size hk)) (Kd.R_mono HS.out.g (fun _ hk => .inl hk)) (Below.refl base _) (Nat.le_trans hb HBe.out.size) (by omega) ?_
         rintro v3 w3 hR3 hB3 hg3 hat3
         obtain ⟨A3, c3, rfl⟩ := Kd.R_slice hR3
         rw [List.length_append, List.length_singleton] at hR3 ⊢
         have r3 := HS.out.row.grown hg3 (fun e => Kd.R_ne HS.out.g HS.out.row (by decide) e.symm)
         have q0 := r3.cell 3
         have z0 := r3.frozen 3
         simp only [List.getElem?_toArray, List.getElem?_cons_zero, List.getElem?_cons_succ] at q0))
  all_goals
    have r4 := r3.put_ 3 (.slice A3 (G.length + 1) c3)
    have hf3 := Kd.R_over HS.out.f HS.out.g (by decide) hg3
    have ht3 := Kd.R_over HS.out.t HS.out.g (by decide) hg3
    have hm3 := Kd.R_over HS.out.m HS.out.g (by decide) hg3
    have hs4 : St (w3.setCell ⟨s, 3, none⟩ (.slice A3 (G.length + 1) c3)) base s (fun k => ok k ∨ w.heap.size ≤ k) vF vT vM (.slice A3 (G.length + 1) c3) F T M (G ++ [⟨ty, mu, v⟩]) :=
      ⟨HS.out.lo, by simpa using r4, Kd.R_mono (R_past hf3 (p := ⟨s, 3, none⟩) HS.out.lo _) (fun _ hk => .inl hk), Kd.R_mono (R_past ht3 (p := ⟨s, 3, none⟩) HS.out.lo _) (fun _ hk => .inl hk), Kd.R_mono (R_past hm3 (p := ⟨s, 3, none⟩) HS.out.lo _) (fun _ hk => .inl hk), R_past hR3 (p := ⟨s, 3, none⟩) HS.out.lo _⟩
    rw [ownBlock_slice] at hg3
    have hO : Only w (w3.setCell ⟨s, 3, none⟩ (.slice A3 (G.length + 1) c3)) (fun k => k = s ∨ blk AG = some k) := by
      refine Only.set (Only.grown ((Only.of_below HBe.out).drew) hg3 (fun k hk => .inl (.inr hk))) (.inl (.inl rfl)) _
    have q4 := r4.cell 3
    simp only [List.getElem?_toArray, List.getElem?_cons_zero, List.getElem?_cons_succ, List.setIfInBounds_toArray, List.set_cons_zero, List.set_cons_succ] at q4
    have HS4 := Aside0.mk hs4
    have HO := Aside0.mk hO
    clear HS hs4 hO hR3 hB3 hg3 hat3 r3 r4 ht3 hf3 hm3 z0 q0 p0 p2 p3 p4 p7
    go_wp2
    go_ret
    exact ⟨by simp, A3, c3, HS4.out, HO.out⟩
theorem new_calls (w : World) : Calls Try.prog 7 #[] w fun e w' => e = .returned (.pointer (some ⟨w.heap.size, 0, none⟩)) ∧ Row w' w.heap.size 90 #[.slice none 0 0, .slice none 0 0, .slice none 0 0, .slice none 0 0, .slice none 0 0] ∧ Below w.heap.size w w' ∧ w'.heap.size = w.heap.size + 1 := by
  go_enter Try.func7, Try.ntmps7
  go_wp2
  go_ret
  exact ⟨rfl, Row.made _ _ _ rfl, below_alloc (Below.refl _ _) _, by simp⟩
theorem St.new {w : World} {base s : Nat} (hs : s < base) (ok : Nat → Prop) (h : Row w s 90 #[.slice none 0 0, .slice none 0 0, .slice none 0 0, .slice none 0 0, .slice none 0 0]) :
    St w base s ok (.slice none 0 0) (.slice none 0 0) (.slice none 0 0) (.slice none 0 0) [] [] [] [] :=
  ⟨hs, h, Kd.R_nil _ _ _ _ _, Kd.R_nil _ _ _ _ _, Kd.R_nil _ _ _ _ _, Kd.R_nil _ _ _ _ _⟩
end Go.Proofs.Ytbelijoggbblgaa.Sp
