import Derived.Test.YtbelijoggbblgaaSp11
namespace Go.Proofs.Ytbelijoggbblgaa.Sp
open Go.RowKit Go.Proofs.YtbelijoggbblgaaW.PrintWords Go.Proofs.YtbelijoggbblgaaW.PrintLast Go.Proofs.YtbelijoggbblgaaW.PrintMore Go.Proofs.Ytbelijoggbblgaa.PStorePlays Go.Proofs.Ytbelijoggbblgaa.St
set_option linter.unusedVariables false
set_option linter.unusedSimpArgs false
section
variable {w w1 w3 W0 : World} {base m : Nat} {ok ok' : Nat → Prop} {tag tag1 : Nat → Nat} {F F1 : List S32} {L : List (List Int × Int)} {N : List (Nat × Int)} {G G1 : List S41} {uF uT uX uM uG : Value} {F' T M : List (List Value)} {X : List Int}
theorem md_f (h : Md w base m ok uF uT uX uM uG F' T X M G) {v3 : Value} {ys : List (List Value)} (hR3 : (raw 5).R 32 w3 base ok' v3 ys) (hg : w.grownBy w3 uF.ownBlock) (hok : ∀ k, ok k → ok' k) : Md (w3.setCell ⟨m, 0, none⟩ v3) base m ok' v3 uT uX uM uG ys T X M G :=
  ⟨h.lo, by simpa using (h.row.grown hg (fun e => Kd.R_ne h.f h.row (by decide) e.symm)).put_ 0 v3, R_past hR3 (p := ⟨m, 0, none⟩) h.lo _, Kd.R_mono (R_past (Kd.R_over h.t h.f (by decide) hg) (p := ⟨m, 0, none⟩) h.lo _) hok, Kd.R_mono (R_past (Kd.R_over h.x h.f (by decide) hg) (p := ⟨m, 0, none⟩) h.lo _) hok, Kd.R_mono (R_past (Kd.R_over h.m h.f (by decide) hg) (p := ⟨m, 0, none⟩) h.lo _) hok, Kd.R_mono (R_past (Kd.R_over h.g h.f (by decide) hg) (p := ⟨m, 0, none⟩) h.lo _) hok⟩
theorem mo_f (h : Md w base m ok uF uT uX uM uG F' T X M G) {v3 : Value} (hg : w.grownBy w3 uF.ownBlock) : Only w (w3.setCell ⟨m, 0, none⟩ v3) (fun k => k = m ∨ (base ≤ k ∧ ok k)) :=
  Only.set (Only.grown (Only.refl w _) hg (fun k hk => .inl (.inr ⟨Kd.R_base h.f k hk, h.f.1 k hk⟩))) (.inl (.inl rfl)) _
theorem md_t (h : Md w base m ok uF uT uX uM uG F' T X M G) {v3 : Value} {ys : List (List Value)} (hR3 : (raw 1).R 23 w3 base ok' v3 ys) (hg : w.grownBy w3 uT.ownBlock) (hok : ∀ k, ok k → ok' k) : Md (w3.setCell ⟨m, 1, none⟩ v3) base m ok' uF v3 uX uM uG F' ys X M G :=
  ⟨h.lo, by simpa using (h.row.grown hg (fun e => Kd.R_ne h.t h.row (by decide) e.symm)).put_ 1 v3, Kd.R_mono (R_past (Kd.R_over h.f h.t (by decide) hg) (p := ⟨m, 1, none⟩) h.lo _) hok, R_past hR3 (p := ⟨m, 1, none⟩) h.lo _, Kd.R_mono (R_past (Kd.R_over h.x h.t (by decide) hg) (p := ⟨m, 1, none⟩) h.lo _) hok, Kd.R_mono (R_past (Kd.R_over h.m h.t (by decide) hg) (p := ⟨m, 1, none⟩) h.lo _) hok, Kd.R_mono (R_past (Kd.R_over h.g h.t (by decide) hg) (p := ⟨m, 1, none⟩) h.lo _) hok⟩
theorem mo_t (h : Md w base m ok uF uT uX uM uG F' T X M G) {v3 : Value} (hg : w.grownBy w3 uT.ownBlock) : Only w (w3.setCell ⟨m, 1, none⟩ v3) (fun k => k = m ∨ (base ≤ k ∧ ok k)) :=
  Only.set (Only.grown (Only.refl w _) hg (fun k hk => .inl (.inr ⟨Kd.R_base h.t k hk, h.t.1 k hk⟩))) (.inl (.inl rfl)) _
theorem md_x (h : Md w base m ok uF uT uX uM uG F' T X M G) {v3 : Value} {ys : List Int} (hR3 : I64.R 3 w3 base ok' v3 ys) (hg : w.grownBy w3 uX.ownBlock) (hok : ∀ k, ok k → ok' k) : Md (w3.setCell ⟨m, 2, none⟩ v3) base m ok' uF uT v3 uM uG F' T ys M G :=
  ⟨h.lo, by simpa using (h.row.grown hg (fun e => Kd.R_ne h.x h.row (by decide) e.symm)).put_ 2 v3, Kd.R_mono (R_past (Kd.R_over h.f h.x (by decide) hg) (p := ⟨m, 2, none⟩) h.lo _) hok, Kd.R_mono (R_past (Kd.R_over h.t h.x (by decide) hg) (p := ⟨m, 2, none⟩) h.lo _) hok, R_past hR3 (p := ⟨m, 2, none⟩) h.lo _, Kd.R_mono (R_past (Kd.R_over h.m h.x (by decide) hg) (p := ⟨m, 2, none⟩) h.lo _) hok, Kd.R_mono (R_past (Kd.R_over h.g h.x (by decide) hg) (p := ⟨m, 2, none⟩) h.lo _) hok⟩
theorem mo_x (h : Md w base m ok uF uT uX uM uG F' T X M G) {v3 : Value} (hg : w.grownBy w3 uX.ownBlock) : Only w (w3.setCell ⟨m, 2, none⟩ v3) (fun k => k = m ∨ (base ≤ k ∧ ok k)) :=
  Only.set (Only.grown (Only.refl w _) hg (fun k hk => .inl (.inr ⟨Kd.R_base h.x k hk, h.x.1 k hk⟩))) (.inl (.inl rfl)) _
theorem md_m (h : Md w base m ok uF uT uX uM uG F' T X M G) {v3 : Value} {ys : List (List Value)} (hR3 : (raw 1).R 131 w3 base ok' v3 ys) (hg : w.grownBy w3 uM.ownBlock) (hok : ∀ k, ok k → ok' k) : Md (w3.setCell ⟨m, 3, none⟩ v3) base m ok' uF uT uX v3 uG F' T X ys G :=
  ⟨h.lo, by simpa using (h.row.grown hg (fun e => Kd.R_ne h.m h.row (by decide) e.symm)).put_ 3 v3, Kd.R_mono (R_past (Kd.R_over h.f h.m (by decide) hg) (p := ⟨m, 3, none⟩) h.lo _) hok, Kd.R_mono (R_past (Kd.R_over h.t h.m (by decide) hg) (p := ⟨m, 3, none⟩) h.lo _) hok, Kd.R_mono (R_past (Kd.R_over h.x h.m (by decide) hg) (p := ⟨m, 3, none⟩) h.lo _) hok, R_past hR3 (p := ⟨m, 3, none⟩) h.lo _, Kd.R_mono (R_past (Kd.R_over h.g h.m (by decide) hg) (p := ⟨m, 3, none⟩) h.lo _) hok⟩
theorem mo_m (h : Md w base m ok uF uT uX uM uG F' T X M G) {v3 : Value} (hg : w.grownBy w3 uM.ownBlock) : Only w (w3.setCell ⟨m, 3, none⟩ v3) (fun k => k = m ∨ (base ≤ k ∧ ok k)) :=
  Only.set (Only.grown (Only.refl w _) hg (fun k hk => .inl (.inr ⟨Kd.R_base h.m k hk, h.m.1 k hk⟩))) (.inl (.inl rfl)) _
theorem md_g (h : Md w base m ok uF uT uX uM uG F' T X M G) {v3 : Value} {ys : List S41} (hR3 : k41.R 41 w3 base ok' v3 ys) (hg : w.grownBy w3 uG.ownBlock) (hok : ∀ k, ok k → ok' k) : Md (w3.setCell ⟨m, 4, none⟩ v3) base m ok' uF uT uX uM v3 F' T X M ys :=
  ⟨h.lo, by simpa using (h.row.grown hg (fun e => Kd.R_ne h.g h.row (by decide) e.symm)).put_ 4 v3, Kd.R_mono (R_past (Kd.R_over h.f h.g (by decide) hg) (p := ⟨m, 4, none⟩) h.lo _) hok, Kd.R_mono (R_past (Kd.R_over h.t h.g (by decide) hg) (p := ⟨m, 4, none⟩) h.lo _) hok, Kd.R_mono (R_past (Kd.R_over h.x h.g (by decide) hg) (p := ⟨m, 4, none⟩) h.lo _) hok, Kd.R_mono (R_past (Kd.R_over h.m h.g (by decide) hg) (p := ⟨m, 4, none⟩) h.lo _) hok, R_past hR3 (p := ⟨m, 4, none⟩) h.lo _⟩
theorem mo_g (h : Md w base m ok uF uT uX uM uG F' T X M G) {v3 : Value} (hg : w.grownBy w3 uG.ownBlock) : Only w (w3.setCell ⟨m, 4, none⟩ v3) (fun k => k = m ∨ (base ≤ k ∧ ok k)) :=
  Only.set (Only.grown (Only.refl w _) hg (fun k hk => .inl (.inr ⟨Kd.R_base h.g k hk, h.g.1 k hk⟩))) (.inl (.inl rfl)) _
theorem Mh.was (h : Mh w W0 base m tag F L N G uF uT uX uM uG F' T M) : Md w base m (fun k => tag k = 2 ∧ k < w.heap.size) uF uT uX uM uG F' T (L.map (·.2)) M G := h.md.monoB (fun k a b c => ⟨a, c⟩)
theorem Mh.rest_ta (h : Mh w W0 base m tag F L N G uF uT uX uM uG F' T M) (hO : Only w w1 (fun k => k = m ∨ (base ≤ k ∧ tag k = 2))) (ht : ∀ k, k < w.heap.size → tag1 k = tag k) (i : Nat) (p : List Int × Int) (hp : L[i]? = some p) : ∃ v, T[i]? = some [v] ∧ Lf w1 base tag1 (4 + 2 * i) v p.1 := by
  obtain ⟨v, e, hl⟩ := h.ta i p hp
  exact ⟨v, e, hl.step (fun k a b c => ⟨hO.block k c (by rintro (rfl | ⟨_, hk⟩); have := h.md.lo; omega; omega), ht k c⟩)⟩
theorem Mh.rest_me (h : Mh w W0 base m tag F L N G uF uT uX uM uG F' T M) (hO : Only w w1 (fun k => k = m ∨ (base ≤ k ∧ tag k = 2))) (ht : ∀ k, k < w.heap.size → tag1 k = tag k) (i : Nat) (p : Nat × Int) (hp : N[i]? = some p) : ∃ v, M[i]? = some v ∧ Me w1 base tag1 130 v p.1 p.2 := by
  obtain ⟨v, e, hl⟩ := h.me i p hp
  exact ⟨v, e, hl.step hO.size (fun k a b c => ⟨hO.block k c (by rintro (rfl | ⟨_, hk⟩); have := h.md.lo; omega; omega), ht k c⟩)⟩
theorem monly (hO : Only w w1 (fun k => k = m ∨ (base ≤ k ∧ tag k = 2))) : MOnly w w1 base m tag := Only.imp hO (fun k _ hk => hk.imp id (fun ⟨a, b⟩ => ⟨a, 0, b⟩))
/-- The new blocks have the tag 2. -/
def ext2 (w : World) (tag : Nat → Nat) : Nat → Nat := fun k => if k < w.heap.size then tag k else 2
theorem ext2_old (w : World) (tag : Nat → Nat) : ∀ k, k < w.heap.size → ext2 w tag k = tag k := fun k hk => if_pos hk
theorem ext2_two (w : World) (tag : Nat → Nat) (k : Nat) (h : (tag k = 2 ∧ k < w.heap.size) ∨ w.heap.size ≤ k) : ext2 w tag k = 2 := by
  unfold ext2
  rcases h with ⟨a, b⟩ | a
  · rw [if_pos b]; exact a
  · rw [if_neg (by omega)]
def MDone (w w' W0 : World) (base m : Nat) (tag : Nat → Nat) (F : List S32) (L : List (List Int × Int)) (N : List (Nat × Int)) (G : List S41) : Prop :=
  (∃ tag1 uF uT uX uM uG F' T M, (∀ k, k < w.heap.size → tag1 k = tag k) ∧ Mh w' W0 base m tag1 F L N G uF uT uX uM uG F' T M) ∧ MOnly w w' base m tag
theorem snoc_old {α : Type} {l : List α} {x y : α} {i : Nat} (h : l[i]? = some y) : (l ++ [x])[i]? = some y := by
  obtain ⟨hl, _⟩ := List.getElem?_eq_some_iff.1 h
  rw [List.getElem?_append_left hl]; exact h
theorem snoc_new {α : Type} (l : List α) (x : α) : (l ++ [x])[l.length]? = some x := by
  rw [List.getElem?_append_right (Nat.le_refl _), Nat.sub_self]; rfl
theorem mo_was {ok : Nat → Prop} {w1 : World} (hO : Only w w1 (fun k => k = m ∨ (base ≤ k ∧ tag k = 2 ∧ k < w.heap.size))) : Only w w1 (fun k => k = m ∨ (base ≤ k ∧ tag k = 2)) := Only.imp hO (fun k _ hk => hk.imp id (fun ⟨a, b, _⟩ => ⟨a, b⟩))
theorem mh_addF (h : Mh w W0 base m tag F L N G uF uT uX uM uG F' T M) {v3 : Value} {v : List Value} {x : S32} (hv : Fu W0 v x) (hR3 : (raw 5).R 32 w3 base (fun k => (tag k = 2 ∧ k < w.heap.size) ∨ w.heap.size ≤ k) v3 (F' ++ [v])) (hg : w.grownBy w3 uF.ownBlock) : MDone w (w3.setCell ⟨m, 0, none⟩ v3) W0 base m tag (F ++ [x]) L N G := by
  have hO := mo_was (ok := fun _ => True) (mo_f h.was (v3 := v3) hg)
  have hmd := (md_f h.was hR3 hg (fun k hk => .inl hk)).monoB (ok' := fun k => ext2 w tag k = 2) (fun k a _ _ => ext2_two w tag k a)
  refine ⟨⟨ext2 w tag, _, _, _, _, _, _, _, _, ext2_old w tag, ⟨hmd, by simp [h.fl], h.tl, h.ml, fun i y hy => ?_, h.rest_ta hO (ext2_old w tag), h.rest_me hO (ext2_old w tag)⟩⟩, monly hO⟩
  rcases snoc_cases hy with h1 | ⟨rfl, rfl⟩
  · obtain ⟨z, e1, e2⟩ := h.fu i y h1
    exact ⟨z, snoc_old e1, e2⟩
  · exact ⟨v, by rw [← h.fl]; exact snoc_new _ _, hv⟩
theorem mh_addG (h : Mh w W0 base m tag F L N G uF uT uX uM uG F' T M) {v3 : Value} {x : S41} (hR3 : k41.R 41 w3 base (fun k => (tag k = 2 ∧ k < w.heap.size) ∨ w.heap.size ≤ k) v3 (G ++ [x])) (hg : w.grownBy w3 uG.ownBlock) : MDone w (w3.setCell ⟨m, 4, none⟩ v3) W0 base m tag F L N (G ++ [x]) := by
  have hO := mo_was (ok := fun _ => True) (mo_g h.was (v3 := v3) hg)
  have hmd := (md_g h.was hR3 hg (fun k hk => .inl hk)).monoB (ok' := fun k => ext2 w tag k = 2) (fun k a _ _ => ext2_two w tag k a)
  exact ⟨⟨ext2 w tag, _, _, _, _, _, _, _, _, ext2_old w tag, ⟨hmd, h.fl, h.tl, h.ml, h.fu, h.rest_ta hO (ext2_old w tag), h.rest_me hO (ext2_old w tag)⟩⟩, monly hO⟩
theorem mh_addM (h : Mh w W0 base m tag F L N G uF uT uX uM uG F' T M) {v3 : Value} {v : List Value} {n : Nat} {mo : Int} (hv : Me w base tag 130 v n mo) (hR3 : (raw 1).R 131 w3 base (fun k => (tag k = 2 ∧ k < w.heap.size) ∨ w.heap.size ≤ k) v3 (M ++ [v])) (hg : w.grownBy w3 uM.ownBlock) : MDone w (w3.setCell ⟨m, 3, none⟩ v3) W0 base m tag F L (N ++ [(n, mo)]) G := by
  have hO := mo_was (ok := fun _ => True) (mo_m h.was (v3 := v3) hg)
  have hmd := (md_m h.was hR3 hg (fun k hk => .inl hk)).monoB (ok' := fun k => ext2 w tag k = 2) (fun k a _ _ => ext2_two w tag k a)
  refine ⟨⟨ext2 w tag, _, _, _, _, _, _, _, _, ext2_old w tag, ⟨hmd, h.fl, h.tl, by simp [h.ml], h.fu, h.rest_ta hO (ext2_old w tag), fun i y hy => ?_⟩⟩, monly hO⟩
  rcases snoc_cases hy with h1 | ⟨rfl, rfl⟩
  · obtain ⟨z, e1, e2⟩ := h.rest_me hO (ext2_old w tag) i y h1
    exact ⟨z, snoc_old e1, e2⟩
  · exact ⟨v, by rw [← h.ml]; exact snoc_new _ _, hv.step hO.size (fun k a b c => ⟨hO.block k c (by rintro (rfl | ⟨_, hk⟩); have := h.md.lo; omega; omega), ext2_old w tag k c⟩)⟩
/-- A table: two appends, one behind the other. -/
theorem mh_addT (h : Mh w W0 base m tag F L N G uF uT uX uM uG F' T M) {v : Value} {l : List Int} {mo : Int} (hv : Lf w base tag (4 + 2 * L.length) v l) {w4 : World} {vT vX : Value} (hmd : Md w4 base m (fun k => (tag k = 2 ∧ k < w.heap.size) ∨ w.heap.size ≤ k) uF vT vX uM uG F' (T ++ [[v]]) (L.map (·.2) ++ [mo]) M G) (hO : Only w w4 (fun k => k = m ∨ (base ≤ k ∧ tag k = 2))) : MDone w w4 W0 base m tag F (L ++ [(l, mo)]) N G := by
  refine ⟨⟨ext2 w tag, _, _, _, _, _, _, _, _, ext2_old w tag, ⟨by rw [List.map_append]; exact hmd.monoB (ok' := fun k => ext2 w tag k = 2) (fun k a _ _ => ext2_two w tag k a), h.fl, by simp [h.tl], h.ml, h.fu, fun i y hy => ?_, h.rest_me hO (ext2_old w tag)⟩⟩, monly hO⟩
  rcases snoc_cases hy with h1 | ⟨rfl, rfl⟩
  · obtain ⟨z, e1, e2⟩ := h.rest_ta hO (ext2_old w tag) i y h1
    exact ⟨z, snoc_old e1, e2⟩
  · exact ⟨v, by rw [← h.tl]; exact snoc_new _ _, hv.step (fun k a b c => ⟨hO.block k c (by rintro (rfl | ⟨_, hk⟩); have := h.md.lo; omega; omega), ext2_old w tag k c⟩)⟩
theorem mh_setT (h : Mh w W0 base m tag F L N G uF uT uX uM uG F' T M) (n : Nat) (hn : n < L.length) (p : List Int × Int) (hp : L[n]? = some p) {b c : Nat} (e : T[n]? = some [.slice (some ⟨b, 0, none⟩) p.1.length c]) (hl : Lf w base tag (4 + 2 * n) (.slice (some ⟨b, 0, none⟩) p.1.length c) p.1) (i : Nat) (f : Int) : MDone w (w.setCell ⟨b, i, none⟩ (.int .i64 f)) W0 base m tag F (L.set n (p.1.set i f, p.2)) N G := by
  have hbt : tag b = 4 + 2 * n := hl.1 b rfl
  have hbb : base ≤ b := Kd.R_base hl b rfl
  have hO : Only w (w.setCell ⟨b, i, none⟩ (.int .i64 f)) (fun k => k = b) := Only.set (S := fun k => k = b) (Only.refl w _) (.inl rfl) _
  have hsb := h.md.lo
  have hX : (L.set n (p.1.set i f, p.2)).map (·.2) = L.map (·.2) := by
    rw [List.map_set]
    apply List.ext_getElem?
    intro j
    rw [List.getElem?_set]
    split
    · rename_i hj
      subst hj
      rw [List.getElem?_map, hp]
      simp [hn]
    · rfl
  refine ⟨⟨tag, _, _, _, _, _, _, _, _, fun _ _ => rfl, ⟨by rw [hX]; exact h.md.step (fun k hk hlt => hO.block k hlt (by rintro rfl; rcases hk with ⟨a, _⟩ | rfl <;> omega)), h.fl, by rw [List.length_set]; exact h.tl, h.ml, h.fu, fun j q hq => ?_, fun j q hq => ?_⟩⟩, Only.imp hO (fun k _ hk => .inr ⟨by rw [hk]; exact hbb, 1 + n, by rw [hk, hbt]; omega⟩)⟩
  · rw [List.getElem?_set] at hq
    split at hq
    · rename_i hj
      subst hj
      have hq2 := Option.some.inj hq
      subst hq2
      refine ⟨_, e, ?_⟩
      have hp2 := (Kd.R_put (W := w) hl i f).1
      rw [Int.toNat_natCast] at hp2
      show Lf _ _ _ _ (.slice (some ⟨b, 0, none⟩) p.1.length c) (p.1.set i f)
      exact hp2
    · rename_i hj
      obtain ⟨v, e1, e2⟩ := h.ta j q hq
      exact ⟨v, e1, e2.step (fun k a b' c' => ⟨hO.block k c' (by rintro rfl; omega), rfl⟩)⟩
  · obtain ⟨v, e1, e2⟩ := h.me j q hq
    exact ⟨v, e1, e2.step hO.size (fun k a b' c' => ⟨hO.block k c' (by rintro rfl; omega), rfl⟩)⟩
theorem mh_setG (h : Mh w W0 base m tag F L N G (uF) uT uX uM uG F' T M) {g c : Nat} (hG : uG = .slice (some ⟨g, 0, none⟩) G.length c) (n : Nat) (hn : n < G.length) (x : S41) (hx : G[n]? = some x) (v : Int) : MDone w (w.setCell ⟨g, n * 3 + 2, none⟩ (.int .u64 v)) W0 base m tag F L N (G.set n ⟨x.f0, x.f1, v⟩) := by
  subst hG
  have hp := R_poke h.md.g n 2 (by decide) (.int .u64 v) ⟨x.f0, x.f1, v⟩ k41_M_mv (fun W o y cs hy hM => by
    rw [hx] at hy
    obtain rfl := Option.some.inj hy
    rw [k41_openM hM]
    exact k41_mkM _ _ _ _)
  have hlo : base ≤ g := Kd.R_base h.md.g g rfl
  have hgt : tag g = 2 := h.md.g.1 g rfl
  have hml := h.md.lo
  have hO : Only w (w.setCell ⟨g, n * 3 + 2, none⟩ (.int .u64 v)) (fun k => k = m ∨ (base ≤ k ∧ tag k = 2)) := Only.set (S := fun k => k = m ∨ (base ≤ k ∧ tag k = 2)) (Only.refl w _) (.inl (.inr ⟨hlo, hgt⟩)) _
  refine ⟨⟨tag, _, _, _, _, _, _, _, _, fun _ _ => rfl, ⟨⟨hml, h.md.row.off (p := ⟨g, _, none⟩) (by show m ≠ g; omega) _, Kd.R_over h.md.f h.md.g (by decide) hp.2, Kd.R_over h.md.t h.md.g (by decide) hp.2, Kd.R_over h.md.x h.md.g (by decide) hp.2, Kd.R_over h.md.m h.md.g (by decide) hp.2, hp.1⟩, h.fl, h.tl, h.ml, h.fu, h.rest_ta hO (fun _ _ => rfl), h.rest_me hO (fun _ _ => rfl)⟩⟩, monly hO⟩
end
end Go.Proofs.Ytbelijoggbblgaa.Sp
