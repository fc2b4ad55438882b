/- slices.Clone of bytes; the program's one: an instruction in new memory. -/
import Derived.Test.YtbelijoggbblgaaEx3
import Derived.Test.YtbelijoggbblgaaEx2
namespace Go.Proofs.Ytbelijoggbblgaa.Ex
open Go.RowKit Go.Proofs.YtbelijoggbblgaaW.PrintWords Go.Proofs.YtbelijoggbblgaaW.PrintLast Go.Proofs.Ytbelijoggbblgaa.RStoreExports
set_option linter.unusedVariables false
set_option linter.unusedSimpArgs false
theorem clone5 {w : World} {A : Option Addr} {c : Nat} {xs : List Int} (h : (Kd.int .u8).C w A xs.length xs) (hc : xs.length ≤ c) (hn : xs.length * 1 ≤ 140737488351232) :
    Calls Try.prog 51 #[.slice A xs.length c] w fun e w' => ∃ v0_ : Value, e = .returned v0_ ∧ (Kd.int .u8).R 5 w' w.heap.size (fun _ => True) v0_ xs ∧ Below w.heap.size w w' := by
  have hnil := @Lib.run_eql_slice_nil Try.prog
  cases A with
  | none =>
    have hl : xs.length = 0 := by
      rcases Nat.eq_zero_or_pos xs.length with h0 | h0
      · exact h0
      · obtain ⟨ad, e, _⟩ := h.2.2 h0; cases e
    obtain rfl : xs = [] := List.eq_nil_of_length_eq_zero hl
    clear h
    go_enter Try.func51, Try.ntmps51
    go_wp2
    go_ret
    exact ⟨_, rfl, Kd.R_nil _ _ _ _ _, Below.refl _ _⟩
  | some ad =>
    have H := Aside0.mk (Kd.C_below h (below_alloc (Below.refl w.heap.size w) (.cells #[] 5)))
    have HR : (Kd.int .u8).R 5 (w.alloc (.cells #[] 5)) w.heap.size (fun _ => True) (.slice (some ⟨w.heap.size, 0, none⟩) 0 0) [] := ⟨fun _ _ => trivial, [], World.ownsRow_made w #[] 0 (Nat.le_refl _) (by decide) rfl, Reps.none _ _⟩
    have HO := Aside0.mk HR
    have HN := Aside0.mk hn
    clear h hn HR
    go_enter Try.func51, Try.ntmps51
    go_wp2_with (at_builtin; refine Kd.R_append_rows (Kd.int .u8) (Rr := (Kd.int .u8).K (w.alloc (.cells #[] 5))) (w0 := w) w.heap.size rfl (.tmp 5) (.tmp 6) 109 5 (.int .u8 0) 1 rfl Try.underlying109 (by kernel_rfl) rfl (by decide) (by decide) (.slice (some ⟨w.heap.size, 0, none⟩) 0 0) [] xs _ _ _ (fun _ => True) (fun _ => False) rfl rfl ?aO ?aR ?aK (fun _ h => h.elim) (fun _ _ => trivial) ?aB ?aS ?aL ?_; (case aO => exact HO.out); (case aR => exact H.out); (case aK => exact (fun x cs hh => hh)); (case aB => exact below_alloc (Below.refl _ _) _); (case aS => simp); (case aL => have := HN.out; simp; omega); intro v3 w3 hR3 hB3 hg3 hat3; have HR3 := Aside0.mk hR3; have HB3 := Aside0.mk hB3; clear hR3 hB3 hg3 hat3)
    go_ret
    exact ⟨_, rfl, HR3.out, HB3.out⟩
theorem C_one {w : World} {g : Nat} (x : S104) {A5 : Option Addr} {c5 : Nat} (l5 : x.f5.length ≤ c5) (g5 : (Kd.int .i64).C w A5 x.f5.length x.f5) {A6 : Option Addr} {c6 : Nat} (l6 : x.f6.length ≤ c6) (g6 : k104.C w A6 x.f6.length x.f6) {A7 : Option Addr} {c7 : Nat} (l7 : x.f7.length ≤ c7) (g7 : k104.C w A7 x.f7.length x.f7)
    (hr : Row w g 104 #[.int .i64 x.f0, .int .i64 x.f1, .int .i64 x.f2, .int .u64 x.f3, .int .i64 x.f4, .slice A5 x.f5.length c5, .slice A6 x.f6.length c6, .slice A7 x.f7.length c7, .bool x.f8]) : Kd.C k104 w (some ⟨g, 0, none⟩) 1 [x] := by
  refine ⟨rfl, by decide, fun _ => ⟨⟨g, 0, none⟩, rfl, fun j p hj => ?_⟩⟩
  obtain ⟨hl, rfl⟩ := List.getElem?_eq_some_iff.1 hj
  obtain rfl : j = 0 := by simp at hl; exact hl
  refine ⟨[.int .i64 x.f0, .int .i64 x.f1, .int .i64 x.f2, .int .u64 x.f3, .int .i64 x.f4, .slice A5 x.f5.length c5, .slice A6 x.f6.length c6, .slice A7 x.f7.length c7, .bool x.f8], rfl, k104_mk w x l5 g5 l6 g6 l7 g7, fun i u hu => ?_⟩
  rw [add_plain, hr.cell]
  rw [show 0 * k104.sz + i = i by omega]
  rw [List.getElem?_toArray]
  exact hu
theorem R_one {w : World} {base : Nat} {v : Value} {x : S104} (h : k104.R 104 w base (fun _ => True) v [x]) : ∃ g cap B5 d5 B6 d6 B7 d7, v = .slice (some ⟨g, 0, none⟩) 1 cap ∧ (w.cell? ⟨g, 0, none⟩ = some (.int .i64 x.f0) ∧ w.cell? ⟨g, 1, none⟩ = some (.int .i64 x.f1) ∧ w.cell? ⟨g, 2, none⟩ = some (.int .i64 x.f2) ∧ w.cell? ⟨g, 3, none⟩ = some (.int .u64 x.f3) ∧ w.cell? ⟨g, 4, none⟩ = some (.int .i64 x.f4) ∧ w.cell? ⟨g, 5, none⟩ = some (.slice B5 x.f5.length d5) ∧ w.cell? ⟨g, 6, none⟩ = some (.slice B6 x.f6.length d6) ∧ w.cell? ⟨g, 7, none⟩ = some (.slice B7 x.f7.length d7) ∧ w.cell? ⟨g, 8, none⟩ = some (.bool x.f8)) ∧ k104.M w base (fun _ => True) x [.int .i64 x.f0, .int .i64 x.f1, .int .i64 x.f2, .int .u64 x.f3, .int .i64 x.f4, .slice B5 x.f5.length d5, .slice B6 x.f6.length d6, .slice B7 x.f7.length d7, .bool x.f8] := by
  obtain ⟨h0, inner, ho, hl, hr⟩ := h
  have hM := hr 0 x rfl
  rw [Nat.zero_mul, List.drop_zero] at hM
  have hl9 : inner.length = 9 := by rw [hl]; rfl
  rw [List.take_of_length_le (by rw [hl9]; decide)] at hM
  obtain ⟨v5, v6, v7, he, h5, h6, h7⟩ := k104_openM hM
  obtain ⟨B5, d5, rfl⟩ := Kd.R_slice h5
  obtain ⟨B6, d6, rfl⟩ := Kd.R_slice h6
  obtain ⟨B7, d7, rfl⟩ := Kd.R_slice h7
  clear h5 h6 h7
  subst he
  rcases ho.2 with ⟨_, e⟩ | ⟨g, cap, cur, rfl, _⟩
  · simp at e
  · have hc := fun j (hj : j < 9) => ho.cellAt j (by exact hj)
    exact ⟨g, cap, B5, d5, B6, d6, B7, d7, rfl, ⟨hc 0 (by decide), hc 1 (by decide), hc 2 (by decide), hc 3 (by decide), hc 4 (by decide), hc 5 (by decide), hc 6 (by decide), hc 7 (by decide), hc 8 (by decide)⟩, k104.M_mono (fun _ _ => trivial) hM⟩
def put9 (w : World) (g : Nat) (a0 a1 a2 a3 a4 a5 a6 a7 a8 : Value) : World := (((((((((w.setCell ⟨g, 0, none⟩ a0).setCell ⟨g, 1, none⟩ a1).setCell ⟨g, 2, none⟩ a2).setCell ⟨g, 3, none⟩ a3).setCell ⟨g, 4, none⟩ a4).setCell ⟨g, 5, none⟩ a5).setCell ⟨g, 6, none⟩ a6).setCell ⟨g, 7, none⟩ a7).setCell ⟨g, 8, none⟩ a8)
theorem put9_row {w : World} {g : Nat} {t : TypeId} {a0 a1 a2 a3 a4 a5 a6 a7 a8 z0 z1 z2 z3 z4 z5 z6 z7 z8 : Value} (h : Row w g t #[z0, z1, z2, z3, z4, z5, z6, z7, z8]) : Row (put9 w g a0 a1 a2 a3 a4 a5 a6 a7 a8) g t #[a0, a1, a2, a3, a4, a5, a6, a7, a8] := by
  unfold put9
  replace h : Row _ g t #[a0, z1, z2, z3, z4, z5, z6, z7, z8] := h.put_ 0 a0
  replace h : Row _ g t #[a0, a1, z2, z3, z4, z5, z6, z7, z8] := h.put_ 1 a1
  replace h : Row _ g t #[a0, a1, a2, z3, z4, z5, z6, z7, z8] := h.put_ 2 a2
  replace h : Row _ g t #[a0, a1, a2, a3, z4, z5, z6, z7, z8] := h.put_ 3 a3
  replace h : Row _ g t #[a0, a1, a2, a3, a4, z5, z6, z7, z8] := h.put_ 4 a4
  replace h : Row _ g t #[a0, a1, a2, a3, a4, a5, z6, z7, z8] := h.put_ 5 a5
  replace h : Row _ g t #[a0, a1, a2, a3, a4, a5, a6, z7, z8] := h.put_ 6 a6
  replace h : Row _ g t #[a0, a1, a2, a3, a4, a5, a6, a7, z8] := h.put_ 7 a7
  replace h : Row _ g t #[a0, a1, a2, a3, a4, a5, a6, a7, a8] := h.put_ 8 a8
  exact h
theorem put9_off {w : World} {g : Nat} {a0 a1 a2 a3 a4 a5 a6 a7 a8 : Value} (k : Nat) (h : k ≠ g) : (put9 w g a0 a1 a2 a3 a4 a5 a6 a7 a8).heap[k]? = w.heap[k]? := by
  unfold put9
  have e := fun (w : World) (i : Nat) (u : Value) => Below.heap_setCell w ⟨g, i, none⟩ u k h
  rw [e, e, e, e, e, e, e, e, e]
theorem put9_below {B : Nat} {a w : World} {g : Nat} {a0 a1 a2 a3 a4 a5 a6 a7 a8 : Value} (h : Below B a w) (hg : B ≤ g) : Below B a (put9 w g a0 a1 a2 a3 a4 a5 a6 a7 a8) := by
  unfold put9
  exact ((((((((h.setCell (p := ⟨g, 0, none⟩) hg a0).setCell (p := ⟨g, 1, none⟩) hg a1).setCell (p := ⟨g, 2, none⟩) hg a2).setCell (p := ⟨g, 3, none⟩) hg a3).setCell (p := ⟨g, 4, none⟩) hg a4).setCell (p := ⟨g, 5, none⟩) hg a5).setCell (p := ⟨g, 6, none⟩) hg a6).setCell (p := ⟨g, 7, none⟩) hg a7).setCell (p := ⟨g, 8, none⟩) hg a8
set_option maxHeartbeats 4000000 in
theorem one_copy {n : Nat} (x : S104) (hb : Bd n [x]) {w : World} {A5 : Option Addr} {c5 : Nat} (l5 : x.f5.length ≤ c5) (g5 : (Kd.int .i64).C w A5 x.f5.length x.f5) {A6 : Option Addr} {c6 : Nat} (l6 : x.f6.length ≤ c6) (g6 : k104.C w A6 x.f6.length x.f6) {A7 : Option Addr} {c7 : Nat} (l7 : x.f7.length ≤ c7) (g7 : k104.C w A7 x.f7.length x.f7) :
    Calls Try.prog 56 #[.agg #[.int .i64 x.f0, .int .i64 x.f1, .int .i64 x.f2, .int .u64 x.f3, .int .i64 x.f4, .slice A5 x.f5.length c5, .slice A6 x.f6.length c6, .slice A7 x.f7.length c7, .bool x.f8]] w fun e w' => ∃ cs : List Value, e = .returned (.agg cs.toArray) ∧ k104.M w' w.heap.size (fun _ => True) x cs ∧ Below w.heap.size w w' := by
  obtain ⟨w2, hw2⟩ : ∃ w2, w2 = ((w.alloc (.cells #[.int .i64 x.f0, .int .i64 x.f1, .int .i64 x.f2, .int .u64 x.f3, .int .i64 x.f4, .slice A5 x.f5.length c5, .slice A6 x.f6.length c6, .slice A7 x.f7.length c7, .bool x.f8] 104)).alloc (.cells #[.int .i64 0, .int .i64 0, .int .i64 0, .int .u64 0, .int .i64 0, .slice none 0 0, .slice none 0 0, .slice none 0 0, .bool false] 104)).alloc (.cells #[.int .i64 x.f0, .int .i64 x.f1, .int .i64 x.f2, .int .u64 x.f3, .int .i64 x.f4, .slice A5 x.f5.length c5, .slice A6 x.f6.length c6, .slice A7 x.f7.length c7, .bool x.f8] 104) := ⟨_, rfl⟩
  have hB2 : Below w.heap.size w w2 := by rw [hw2]; exact below_alloc (below_alloc (below_alloc (Below.refl _ _) _) _) _
  have hr2 : Row w2 (w.heap.size + 2) 104 #[.int .i64 x.f0, .int .i64 x.f1, .int .i64 x.f2, .int .u64 x.f3, .int .i64 x.f4, .slice A5 x.f5.length c5, .slice A6 x.f6.length c6, .slice A7 x.f7.length c7, .bool x.f8] := by rw [hw2]; exact St.Row.made _ _ _ (by simp)
  have hz2 : Row w2 (w.heap.size + 1) 104 #[.int .i64 0, .int .i64 0, .int .i64 0, .int .u64 0, .int .i64 0, .slice none 0 0, .slice none 0 0, .slice none 0 0, .bool false] := by rw [hw2]; exact St.Row.alloc (St.Row.made _ _ _ (by simp)) _
  have hs2 : w2.heap.size = w.heap.size + 3 := by rw [hw2]; simp
  have CC := Aside0.mk (show Calls Try.prog 55 #[.slice (some ⟨w.heap.size + 1 + 1, 0, none⟩) 1 1] w2 _ from code_copy hb (C_one x l5 (Kd.C_below g5 hB2) l6 (Kd.C_below g6 hB2) l7 (Kd.C_below g7 hB2) hr2) (Nat.le_refl 1))
  have HB2 := Aside0.mk hB2
  have HZ2 := Aside0.mk hz2
  have HS2 := Aside0.mk hs2
  rw [hw2] at CC
  clear g5 g6 g7 hB2 hr2 hz2 hs2
  go_enter Try.func56, Try.ntmps56
  go_wp2_with (go_at_call 55; (refine CC.out.mono ?_); rintro e w3 ⟨v0, rfl, hR3, hB3⟩; rw [← hw2] at hB3; rw [← hw2] at hR3; obtain ⟨g, cap, B5, d5, B6, d6, B7, d7, rfl, ⟨q0, q1, q2, q3, q4, q5, q6, q7, q8⟩, hM⟩ := R_one hR3; have HM := Aside0.mk hM; have HB3 := Aside0.mk hB3; have r3 := HZ2.out.below hB3 (by rw [HS2.out]; omega); have z0 : w3.cell? ⟨w.heap.size + 1, 0, none⟩ = some (.int .i64 0) := r3.cell 0; have y0 := r3.frozen 0; have z1 : w3.cell? ⟨w.heap.size + 1, 1, none⟩ = some (.int .i64 0) := r3.cell 1; have y1 := r3.frozen 1; have z2 : w3.cell? ⟨w.heap.size + 1, 2, none⟩ = some (.int .i64 0) := r3.cell 2; have y2 := r3.frozen 2; have z3 : w3.cell? ⟨w.heap.size + 1, 3, none⟩ = some (.int .u64 0) := r3.cell 3; have y3 := r3.frozen 3; have z4 : w3.cell? ⟨w.heap.size + 1, 4, none⟩ = some (.int .i64 0) := r3.cell 4; have y4 := r3.frozen 4; have z5 : w3.cell? ⟨w.heap.size + 1, 5, none⟩ = some (.slice none 0 0) := r3.cell 5; have y5 := r3.frozen 5; have z6 : w3.cell? ⟨w.heap.size + 1, 6, none⟩ = some (.slice none 0 0) := r3.cell 6; have y6 := r3.frozen 6; have z7 : w3.cell? ⟨w.heap.size + 1, 7, none⟩ = some (.slice none 0 0) := r3.cell 7; have y7 := r3.frozen 7; have z8 : w3.cell? ⟨w.heap.size + 1, 8, none⟩ = some (.bool false) := r3.cell 8; have y8 := r3.frozen 8; clear hR3 hB3 hM)
  have HB3w : Below w.heap.size w w3 := HB2.out.trans (St.below_mono HB3.out HB2.out.size)
  have r9 : Row (put9 w3 (w.heap.size + 1) (.int .i64 x.f0) (.int .i64 x.f1) (.int .i64 x.f2) (.int .u64 x.f3) (.int .i64 x.f4) (.slice B5 x.f5.length d5) (.slice B6 x.f6.length d6) (.slice B7 x.f7.length d7) (.bool x.f8)) (w.heap.size + 1) 104 #[.int .i64 x.f0, .int .i64 x.f1, .int .i64 x.f2, .int .u64 x.f3, .int .i64 x.f4, .slice B5 x.f5.length d5, .slice B6 x.f6.length d6, .slice B7 x.f7.length d7, .bool x.f8] := put9_row r3
  have b9 : Below w.heap.size w (put9 w3 (w.heap.size + 1) (.int .i64 x.f0) (.int .i64 x.f1) (.int .i64 x.f2) (.int .u64 x.f3) (.int .i64 x.f4) (.slice B5 x.f5.length d5) (.slice B6 x.f6.length d6) (.slice B7 x.f7.length d7) (.bool x.f8)) := put9_below HB3w (Nat.le_succ _)
  have m9 : k104.M (put9 w3 (w.heap.size + 1) (.int .i64 x.f0) (.int .i64 x.f1) (.int .i64 x.f2) (.int .u64 x.f3) (.int .i64 x.f4) (.slice B5 x.f5.length d5) (.slice B6 x.f6.length d6) (.slice B7 x.f7.length d7) (.bool x.f8)) w.heap.size (fun _ => True) x [.int .i64 x.f0, .int .i64 x.f1, .int .i64 x.f2, .int .u64 x.f3, .int .i64 x.f4, .slice B5 x.f5.length d5, .slice B6 x.f6.length d6, .slice B7 x.f7.length d7, .bool x.f8] := by
    refine k104.M_lower (base := w2.heap.size) (by rw [HS2.out]; omega) (k104.M_mono (fun _ _ => trivial) (Kd.M_step (k104.M_bound HM.out) (fun k hk hlt => put9_off k ?_)))
    have := hk.2.1
    rw [HS2.out] at this
    omega
  change bodyPost _ _ _ _ _ (put9 w3 (w.heap.size + 1) (.int .i64 x.f0) (.int .i64 x.f1) (.int .i64 x.f2) (.int .u64 x.f3) (.int .i64 x.f4) (.slice B5 x.f5.length d5) (.slice B6 x.f6.length d6) (.slice B7 x.f7.length d7) (.bool x.f8))
  generalize put9 w3 (w.heap.size + 1) (.int .i64 x.f0) (.int .i64 x.f1) (.int .i64 x.f2) (.int .u64 x.f3) (.int .i64 x.f4) (.slice B5 x.f5.length d5) (.slice B6 x.f6.length d6) (.slice B7 x.f7.length d7) (.bool x.f8) = w9 at r9 b9 m9 ⊢
  refine bodyPost_ret (results_cell_row (cs := #[.int .i64 x.f0, .int .i64 x.f1, .int .i64 x.f2, .int .u64 x.f3, .int .i64 x.f4, .slice B5 x.f5.length d5, .slice B6 x.f6.length d6, .slice B7 x.f7.length d7, .bool x.f8]) rfl _ _ (w.heap.size + 1) 104 _ _ rfl r9 Try.underlying104 rfl (by kernel_rfl)) rfl ?_
  exact ⟨[.int .i64 x.f0, .int .i64 x.f1, .int .i64 x.f2, .int .u64 x.f3, .int .i64 x.f4, .slice B5 x.f5.length d5, .slice B6 x.f6.length d6, .slice B7 x.f7.length d7, .bool x.f8], rfl, m9, b9⟩
end Go.Proofs.Ytbelijoggbblgaa.Ex
