import Derived.Test.YtbelijoggbblgaaSp4
namespace Go.Proofs.Ytbelijoggbblgaa.Sp
open Go.RowKit Go.Proofs.YtbelijoggbblgaaW.PrintWords Go.Proofs.YtbelijoggbblgaaW.PrintLast Go.Proofs.YtbelijoggbblgaaW.PrintMore Go.Proofs.Ytbelijoggbblgaa.PStorePlays Go.Proofs.Ytbelijoggbblgaa.St
set_option linter.unusedVariables false
set_option linter.unusedSimpArgs false
theorem guards_yes {lo hi : Int} {has : Bool} (h : tabOk lo hi has) : decide (lo < 0) = false ∧ decide (64 < lo) = false ∧ (has = true → decide (hi < lo) = false ∧ decide (64 < hi) = false) :=
  ⟨decide_eq_false (by have := h.1; omega), decide_eq_false (by have := h.2.1; omega), fun e => ⟨decide_eq_false (by have := h.2.2 e; omega), decide_eq_false (by have := h.2.2 e; omega)⟩⟩
set_option maxHeartbeats 4000000 in
theorem addTable_yes {w : World} {base s : Nat} {ok : Nat → Prop} {vF vM vG : Value} {F : List S32} {T M : List (List Value)} {G : List S41} {AT : Option Addr} {cT : Nat} (h : St w base s ok vF (.slice AT T.length cT) vM vG F T M G) (hb : base ≤ w.heap.size) (hn : T.length ≤ 100) (lo : Nat) (hi : Int) (has : Bool) (hk : tabOk lo hi has) :
    Calls Try.prog 9 #[.pointer (some ⟨s, 0, none⟩), .agg #[.int .i64 lo, .int .i64 hi, .bool has]] w fun e w' => e = .returned (.tuple #[.int .i64 T.length, .nilIface]) ∧ ∃ AT' cT' A c, St w' base s (fun k => ok k ∨ (w.heap.size ≤ k ∧ blk A ≠ some k)) vF (.slice AT' (T.length + 1) cT') vM vG F (T ++ [[.slice A lo c, .int .i64 (if has = true then hi else -1)]]) M G ∧ I64.R 3 w' w.heap.size (fun _ => True) (.slice A lo c) (List.replicate lo (-1)) ∧ Only w w' (fun k => k = s ∨ blk AT = some k) := by
  obtain ⟨e1, e2, e34⟩ := guards_yes hk
  have hlo : lo ≤ 64 := by have := hk.2.1; omega
  have H := Aside0.mk h
  have hlt : ∀ k, blk AT = some k → k < w.heap.size := fun k hk => Kd.R_lt h.t k (by rw [ownBlock_slice]; exact hk)
  have HLT := Aside0.mk hlt
  have hsl := h.row.lt
  clear h hk hlt
  cases has
  · clear e34
    go_enter Try.func9, Try.ntmps9
    go_wp2_with fail
    go_loopg [35] lo (fun kq v35 w' => ∃ (j : Nat) (A : Option Addr) (c : Nat), v35 = .int .i64 j ∧ j + kq = lo ∧ Row w' (w.heap.size + 1) 94 #[.slice A j c, .int .i64 (-1)] ∧ Row w' w.heap.size 38 #[.int .i64 lo, .int .i64 hi, .bool false] ∧ I64.R 3 w' (w.heap.size + 2) (fun _ => True) (.slice A j c) (List.replicate j (-1)) ∧ Below w.heap.size w w' ∧ w.heap.size + 2 ≤ w'.heap.size)
    case atStart =>
      exact ⟨0, none, 0, rfl, by omega, Row.made _ _ _ (by simp), (Row.made _ _ _ rfl).alloc _, Kd.R_nil _ _ _ _ _, below_alloc (below_alloc (Below.refl _ _) _) _, by simp⟩
    case round =>
      obtain ⟨j, A, c, rfl, hj, hr, hr2, hR, hB, hs⟩ := hrel
      cases gk with
      | zero =>
        obtain rfl : j = lo := by omega
        have q1 := hr.cell 1
        have z1 := hr.frozen 1
        have y1 := hr2.cell 1
        have y2 := hr2.cell 2
        simp only [List.getElem?_toArray, List.getElem?_cons_zero, List.getElem?_cons_succ] at q1 y1 y2
        have hr9 := hr
        have hR9 := hR
        have hB9 := hB
        have hs9 := hs
        have HR := Aside0.mk hr
        have HRR := Aside0.mk hR
        clear hR hB hs hr hr2
        go_wp2
        obtain ⟨w2, hw2⟩ : ∃ w2, w2 = wr := ⟨_, rfl⟩
        rw [← hw2] at hr9 hR9 hB9 hs9 ⊢
        clear hw2 q1 z1 y1 y2 HR HRR
        have hS2 : St w2.drew base s ok vF (.slice AT T.length cT) vM vG F T M G := (H.out.below hB9).drew
        have p0 := hS2.row.cell 1
        have p0 := (H.out.below hB9).row.cell 1
        have p7 := ((H.out.below hB9).row.alloc (.cells #[.slice A j c, .int .i64 (-1)] 94)).cell 1
        have p2 := hr9.cell 0
        have p3 := hr9.cell 1
        simp only [List.getElem?_toArray, List.getElem?_cons_zero, List.getElem?_cons_succ] at p0 p2 p3 p7
        have hR8 : I64.R 3 w2.drew w.heap.size (fun _ => True) (.slice A j c) (List.replicate j (-1)) := Kd.R_drew (Kd.R_lower hR9 (by omega))
        have hlr : (List.replicate j (-1 : Int)).length = j := List.length_replicate
        have HS := Aside0.mk hS2
        have HBe := Aside0.mk hB9
        have HR8 := Aside0.mk hR8
        clear hS2 hr9 hR9 hB9 hs9 hR8
        go_region_law
          (first
            | (refine Kd.R_append_step (W := w2.drew) (raw 2) base (by rfl) (.tmp 52) (.tmp 54) 87 94 (.agg #[.slice none 0 0, .int .i64 0]) 32 rfl Try.underlying87 (by kernel_rfl) rfl (by decide) (by decide) (.slice AT T.length cT) T [.slice A j c, .int .i64 (-1)] [.slice A j c, .int .i64 (-1)] (fun k => ok k ∨ (w.heap.size ≤ k ∧ blk A ≠ some k)) (fun _ => False) rfl (by rfl) ⟨rfl, rfl, by intro u hu; simp only [List.mem_cons, List.mem_nil_iff, or_false] at hu; rcases hu with rfl | rfl <;> rfl⟩ (fun k hk => hk.elim) (fun k hk => .inr ⟨Nat.le_trans HBe.out.size hk, fun e => by have h9 := Kd.R_lt HR8.out k (by rw [ownBlock_slice]; exact e); exact absurd hk (Nat.not_le_of_lt h9)⟩) (Kd.R_mono HS.out.t (fun _ hk => .inl hk)) (Below.refl base _) (Nat.le_trans hb HBe.out.size) (by omega) ?_
               rintro v3 w3 hR3 hB3 hg3 hat3
               obtain ⟨A3, c3, rfl⟩ := Kd.R_slice hR3
               rw [List.length_append, List.length_singleton] at hR3 ⊢
               have r3 := HS.out.row.grown hg3 (fun e => Kd.R_ne HS.out.t HS.out.row (by decide) e.symm)
               have q0 := r3.cell 1
               have z0 := r3.frozen 1
               simp only [List.getElem?_toArray, List.getElem?_cons_zero, List.getElem?_cons_succ] at q0))
        all_goals
          have r4 := r3.put_ 1 (.slice A3 (T.length + 1) c3)
          have hf3 := Kd.R_over HS.out.f HS.out.t (by decide) hg3
          have hm3 := Kd.R_over HS.out.m HS.out.t (by decide) hg3
          have hg4 := Kd.R_over HS.out.g HS.out.t (by decide) hg3
          have hl3 := R_past (Kd.R_over HR8.out HS.out.t (by decide) hg3) (p := ⟨s, 1, none⟩) hsl (.slice A3 (T.length + 1) c3)
          have hs4 : St (w3.setCell ⟨s, 1, none⟩ (.slice A3 (T.length + 1) c3)) base s (fun k => ok k ∨ (w.heap.size ≤ k ∧ blk A ≠ some k)) vF (.slice A3 (T.length + 1) c3) vM vG F (T ++ [[.slice A j c, .int .i64 (-1)]]) M G :=
            ⟨HS.out.lo, by simpa using r4, Kd.R_mono (R_past hf3 (p := ⟨s, 1, none⟩) HS.out.lo _) (fun _ hk => .inl hk), R_past hR3 (p := ⟨s, 1, none⟩) HS.out.lo _, Kd.R_mono (R_past hm3 (p := ⟨s, 1, none⟩) HS.out.lo _) (fun _ hk => .inl hk), Kd.R_mono (R_past hg4 (p := ⟨s, 1, none⟩) HS.out.lo _) (fun _ hk => .inl hk)⟩
          rw [ownBlock_slice] at hg3
          have hO : Only w (w3.setCell ⟨s, 1, none⟩ (.slice A3 (T.length + 1) c3)) (fun k => k = s ∨ blk AT = some k) := by
            refine Only.set (Only.grown ((Only.of_below HBe.out).drew) hg3 (fun k hk => .inl (.inr hk))) (.inl (.inl rfl)) _
          have q4 := r4.cell 1
          simp only [List.getElem?_toArray, List.getElem?_cons_zero, List.getElem?_cons_succ, List.setIfInBounds_toArray, List.set_cons_zero, List.set_cons_succ] at q4
          have HS4 := Aside0.mk hs4
          have HO := Aside0.mk hO
          have HL3 := Aside0.mk hl3
          clear HS HR8 hl3 hm3 hs4 hO hR3 hB3 hg3 hat3 r3 r4 hf3 hg4 z0 q0 p0 p2 p3 p7
          go_wp2
          go_ret2
          exact ⟨by simp, A3, c3, A, c, by simpa using HS4.out, HL3.out, HO.out⟩
      | succ k2 =>
        have hlt2 : ((j : Int) < (lo : Int)) = True := eq_true (by omega)
        have q0 := hr.cell 0
        have z0 := hr.frozen 0
        simp only [List.getElem?_toArray, List.getElem?_cons_zero, List.getElem?_cons_succ] at q0
        have HR := Aside0.mk hr
        have HR2 := Aside0.mk hr2
        have HRR := Aside0.mk hR
        have HB := Aside0.mk hB
        have HSZ := Aside0.mk hs
        clear hr hr2 hR hB hs
        go_wp2_with (at_builtin; refine Kd.R_append I64 (w.heap.size + 2) rfl (.tmp 38) (.tmp 39) 23 3 (.int .i64 0) 8 rfl Try.underlying23 (by kernel_rfl) rfl (by decide) (by decide) (.slice A j c) (List.replicate j (-1)) (-1) [.int .i64 (-1)] (fun _ => True) (fun _ => False) rfl rfl rfl (fun _ hk => hk.elim) (fun _ _ => trivial) HRR.out (Below.refl _ _) HSZ.out (by simp; omega) ?_; rintro v3 w3 hR3 hB3 hg3 hat3; obtain ⟨A3, c3, rfl⟩ := Kd.R_slice hR3; (rw [List.length_append, List.length_singleton, List.length_replicate] at hR3 ⊢); (rw [← List.replicate_succ'] at hR3); have r3 := HR.out.grown hg3 (fun e => Kd.R_ne HRR.out HR.out (by decide) e.symm); have r32 := HR2.out.grown hg3 (fun e => Kd.R_ne HRR.out HR2.out (by decide) e.symm); have q3 := r3.cell 0; have z3 := r3.frozen 0; simp only [List.getElem?_toArray, List.getElem?_cons_zero, List.getElem?_cons_succ] at q3)
        have r4 := r3.put_ 0 (.slice A3 (j + 1) c3)
        simp only [List.setIfInBounds_toArray, List.set_cons_zero, List.set_cons_succ] at r4
        have hb3 : Below w.heap.size w w3 := HB.out.trans (below_mono hB3 (by omega))
        have hs3 := Nat.le_trans HSZ.out hB3.size
        go_roundg k2
        case measure => omega
        case rel => exact ⟨j + 1, A3, c3, by simp, by omega, r4, r32.off (p := ⟨w.heap.size + 1, 0, none⟩) (by simp) _, R_past hR3 (p := ⟨w.heap.size + 1, 0, none⟩) (Nat.lt_succ_self _) _, hb3.setCell (p := ⟨w.heap.size + 1, 0, none⟩) (Nat.le_succ _) _, by simpa using hs3⟩
  · obtain ⟨e3, e4⟩ := e34 rfl
    clear e34
    go_enter Try.func9, Try.ntmps9
    go_wp2_with fail
    go_loopg [35] lo (fun kq v35 w' => ∃ (j : Nat) (A : Option Addr) (c : Nat), v35 = .int .i64 j ∧ j + kq = lo ∧ Row w' (w.heap.size + 1) 94 #[.slice A j c, .int .i64 (-1)] ∧ Row w' w.heap.size 38 #[.int .i64 lo, .int .i64 hi, .bool true] ∧ I64.R 3 w' (w.heap.size + 2) (fun _ => True) (.slice A j c) (List.replicate j (-1)) ∧ Below w.heap.size w w' ∧ w.heap.size + 2 ≤ w'.heap.size)
    case atStart =>
      exact ⟨0, none, 0, rfl, by omega, Row.made _ _ _ (by simp), (Row.made _ _ _ rfl).alloc _, Kd.R_nil _ _ _ _ _, below_alloc (below_alloc (Below.refl _ _) _) _, by simp⟩
    case round =>
      obtain ⟨j, A, c, rfl, hj, hr, hr2, hR, hB, hs⟩ := hrel
      cases gk with
      | zero =>
        obtain rfl : j = lo := by omega
        have q1 := hr.cell 1
        have z1 := hr.frozen 1
        have y1 := hr2.cell 1
        have y2 := hr2.cell 2
        simp only [List.getElem?_toArray, List.getElem?_cons_zero, List.getElem?_cons_succ] at q1 y1 y2
        have hr9 := hr.put_ 1 (.int .i64 hi)
        simp only [List.setIfInBounds_toArray, List.set_cons_zero, List.set_cons_succ] at hr9
        have hR9 := R_past hR (p := ⟨w.heap.size + 1, 1, none⟩) (Nat.lt_succ_self _) (.int .i64 hi)
        have hB9 := hB.setCell (p := ⟨w.heap.size + 1, 1, none⟩) (Nat.le_succ _) (.int .i64 hi)
        have hs9 : w.heap.size + 2 ≤ (wr.setCell ⟨w.heap.size + 1, 1, none⟩ (.int .i64 hi)).heap.size := by simpa using hs
        have HR := Aside0.mk hr
        have HRR := Aside0.mk hR
        clear hR hB hs hr hr2
        go_wp2
        obtain ⟨w2, hw2⟩ : ∃ w2, w2 = (wr.setCell ⟨w.heap.size + 1, 1, none⟩ (.int .i64 hi)) := ⟨_, rfl⟩
        rw [← hw2] at hr9 hR9 hB9 hs9 ⊢
        clear hw2 q1 z1 y1 y2 HR HRR
        have hS2 : St w2.drew base s ok vF (.slice AT T.length cT) vM vG F T M G := (H.out.below hB9).drew
        have p0 := hS2.row.cell 1
        have p0 := (H.out.below hB9).row.cell 1
        have p7 := ((H.out.below hB9).row.alloc (.cells #[.slice A j c, .int .i64 hi] 94)).cell 1
        have p2 := hr9.cell 0
        have p3 := hr9.cell 1
        simp only [List.getElem?_toArray, List.getElem?_cons_zero, List.getElem?_cons_succ] at p0 p2 p3 p7
        have hR8 : I64.R 3 w2.drew w.heap.size (fun _ => True) (.slice A j c) (List.replicate j (-1)) := Kd.R_drew (Kd.R_lower hR9 (by omega))
        have hlr : (List.replicate j (-1 : Int)).length = j := List.length_replicate
        have HS := Aside0.mk hS2
        have HBe := Aside0.mk hB9
        have HR8 := Aside0.mk hR8
        clear hS2 hr9 hR9 hB9 hs9 hR8
        go_region_law
          (first
            | (refine Kd.R_append_step (W := w2.drew) (raw 2) base (by rfl) (.tmp 52) (.tmp 54) 87 94 (.agg #[.slice none 0 0, .int .i64 0]) 32 rfl Try.underlying87 (by kernel_rfl) rfl (by decide) (by decide) (.slice AT T.length cT) T [.slice A j c, .int .i64 hi] [.slice A j c, .int .i64 hi] (fun k => ok k ∨ (w.heap.size ≤ k ∧ blk A ≠ some k)) (fun _ => False) rfl (by rfl) ⟨rfl, rfl, by intro u hu; simp only [List.mem_cons, List.mem_nil_iff, or_false] at hu; rcases hu with rfl | rfl <;> rfl⟩ (fun k hk => hk.elim) (fun k hk => .inr ⟨Nat.le_trans HBe.out.size hk, fun e => by have h9 := Kd.R_lt HR8.out k (by rw [ownBlock_slice]; exact e); exact absurd hk (Nat.not_le_of_lt h9)⟩) (Kd.R_mono HS.out.t (fun _ hk => .inl hk)) (Below.refl base _) (Nat.le_trans hb HBe.out.size) (by omega) ?_
               rintro v3 w3 hR3 hB3 hg3 hat3
               obtain ⟨A3, c3, rfl⟩ := Kd.R_slice hR3
               rw [List.length_append, List.length_singleton] at hR3 ⊢
               have r3 := HS.out.row.grown hg3 (fun e => Kd.R_ne HS.out.t HS.out.row (by decide) e.symm)
               have q0 := r3.cell 1
               have z0 := r3.frozen 1
               simp only [List.getElem?_toArray, List.getElem?_cons_zero, List.getElem?_cons_succ] at q0))
        all_goals
          have r4 := r3.put_ 1 (.slice A3 (T.length + 1) c3)
          have hf3 := Kd.R_over HS.out.f HS.out.t (by decide) hg3
          have hm3 := Kd.R_over HS.out.m HS.out.t (by decide) hg3
          have hg4 := Kd.R_over HS.out.g HS.out.t (by decide) hg3
          have hl3 := R_past (Kd.R_over HR8.out HS.out.t (by decide) hg3) (p := ⟨s, 1, none⟩) hsl (.slice A3 (T.length + 1) c3)
          have hs4 : St (w3.setCell ⟨s, 1, none⟩ (.slice A3 (T.length + 1) c3)) base s (fun k => ok k ∨ (w.heap.size ≤ k ∧ blk A ≠ some k)) vF (.slice A3 (T.length + 1) c3) vM vG F (T ++ [[.slice A j c, .int .i64 hi]]) M G :=
            ⟨HS.out.lo, by simpa using r4, Kd.R_mono (R_past hf3 (p := ⟨s, 1, none⟩) HS.out.lo _) (fun _ hk => .inl hk), R_past hR3 (p := ⟨s, 1, none⟩) HS.out.lo _, Kd.R_mono (R_past hm3 (p := ⟨s, 1, none⟩) HS.out.lo _) (fun _ hk => .inl hk), Kd.R_mono (R_past hg4 (p := ⟨s, 1, none⟩) HS.out.lo _) (fun _ hk => .inl hk)⟩
          rw [ownBlock_slice] at hg3
          have hO : Only w (w3.setCell ⟨s, 1, none⟩ (.slice A3 (T.length + 1) c3)) (fun k => k = s ∨ blk AT = some k) := by
            refine Only.set (Only.grown ((Only.of_below HBe.out).drew) hg3 (fun k hk => .inl (.inr hk))) (.inl (.inl rfl)) _
          have q4 := r4.cell 1
          simp only [List.getElem?_toArray, List.getElem?_cons_zero, List.getElem?_cons_succ, List.setIfInBounds_toArray, List.set_cons_zero, List.set_cons_succ] at q4
          have HS4 := Aside0.mk hs4
          have HO := Aside0.mk hO
          have HL3 := Aside0.mk hl3
          clear HS HR8 hl3 hm3 hs4 hO hR3 hB3 hg3 hat3 r3 r4 hf3 hg4 z0 q0 p0 p2 p3 p7
          go_wp2
          go_ret2
          exact ⟨by simp, A3, c3, A, c, by simpa using HS4.out, HL3.out, HO.out⟩
      | succ k2 =>
        have hlt2 : ((j : Int) < (lo : Int)) = True := eq_true (by omega)
        have q0 := hr.cell 0
        have z0 := hr.frozen 0
        simp only [List.getElem?_toArray, List.getElem?_cons_zero, List.getElem?_cons_succ] at q0
        have HR := Aside0.mk hr
        have HR2 := Aside0.mk hr2
        have HRR := Aside0.mk hR
        have HB := Aside0.mk hB
        have HSZ := Aside0.mk hs
        clear hr hr2 hR hB hs
        go_wp2_with (at_builtin; refine Kd.R_append I64 (w.heap.size + 2) rfl (.tmp 38) (.tmp 39) 23 3 (.int .i64 0) 8 rfl Try.underlying23 (by kernel_rfl) rfl (by decide) (by decide) (.slice A j c) (List.replicate j (-1)) (-1) [.int .i64 (-1)] (fun _ => True) (fun _ => False) rfl rfl rfl (fun _ hk => hk.elim) (fun _ _ => trivial) HRR.out (Below.refl _ _) HSZ.out (by simp; omega) ?_; rintro v3 w3 hR3 hB3 hg3 hat3; obtain ⟨A3, c3, rfl⟩ := Kd.R_slice hR3; (rw [List.length_append, List.length_singleton, List.length_replicate] at hR3 ⊢); (rw [← List.replicate_succ'] at hR3); have r3 := HR.out.grown hg3 (fun e => Kd.R_ne HRR.out HR.out (by decide) e.symm); have r32 := HR2.out.grown hg3 (fun e => Kd.R_ne HRR.out HR2.out (by decide) e.symm); have q3 := r3.cell 0; have z3 := r3.frozen 0; simp only [List.getElem?_toArray, List.getElem?_cons_zero, List.getElem?_cons_succ] at q3)
        have r4 := r3.put_ 0 (.slice A3 (j + 1) c3)
        simp only [List.setIfInBounds_toArray, List.set_cons_zero, List.set_cons_succ] at r4
        have hb3 : Below w.heap.size w w3 := HB.out.trans (below_mono hB3 (by omega))
        have hs3 := Nat.le_trans HSZ.out hB3.size
        go_roundg k2
        case measure => omega
        case rel => exact ⟨j + 1, A3, c3, by simp, by omega, r4, r32.off (p := ⟨w.heap.size + 1, 0, none⟩) (by simp) _, R_past hR3 (p := ⟨w.heap.size + 1, 0, none⟩) (Nat.lt_succ_self _) _, hb3.setCell (p := ⟨w.heap.size + 1, 0, none⟩) (Nat.le_succ _) _, by simpa using hs3⟩
end Go.Proofs.Ytbelijoggbblgaa.Sp
