import Derived.Test.YtbelijoggbblgaaSp8
namespace Go.Proofs.Ytbelijoggbblgaa.Sp
open Go.RowKit Go.Proofs.YtbelijoggbblgaaW.PrintWords Go.Proofs.YtbelijoggbblgaaW.PrintLast Go.Proofs.YtbelijoggbblgaaW.PrintMore Go.Proofs.Ytbelijoggbblgaa.PStorePlays Go.Proofs.Ytbelijoggbblgaa.St
set_option linter.unusedVariables false
set_option linter.unusedSimpArgs false
theorem Mm.keptN {w w' : World} {base : Nat} {ty : TypeId} {g : Nat} {A : Option Addr} {n c : Nat} {xs : List Int} {most : Int} (h : Mm w base ty g A n c xs most) {row : Option Nat} (hg : w.grownBy w' row) (hr : ∀ k, row = some k → k < base) : Mm w' base ty g A n c xs most := by
  refine h.kept hg (fun e => by have := hr _ e; have := h.lo; omega) ?_
  cases hb : blk A with
  | none => exact .inl rfl
  | some i => exact .inr (fun e => by have := hr _ e.symm; have := (h.own.lt i (by rw [ownBlock_slice]; exact hb)).1; omega)
theorem addMem_no (w : World) (s : Nat) (lo hi : Int) (has : Bool) (h : ¬ may lo hi has) :
    Calls Try.prog 46 #[.pointer (some ⟨s, 0, none⟩), .agg #[.int .i64 lo, .int .i64 hi, .bool has]] w fun e w' => e = .returned (.tuple #[.int .i64 0, .iface 92 (.int .i64 1)]) ∧ Below w.heap.size w w' := by
  have hu := Try.underlying34
  have HN := Aside0.mk (fun W : World => new_no W lo hi has h)
  clear h
  go_enter Try.func46, Try.ntmps46
  go_wp2_with (go_at_call 57; (refine (HN.out _).mono ?_); rintro e w1 ⟨rfl, hB1⟩; have HB1 := Aside0.mk hB1; clear hB1)
  go_ret2
  exact ⟨rfl, (below_alloc (Below.refl w.heap.size w) _).trans (below_mono HB1.out (by simp))⟩
set_option maxHeartbeats 4000000 in
theorem addMem_yes {w : World} {base s : Nat} {ok : Nat → Prop} {vF vT vG : Value} {F : List S32} {T M : List (List Value)} {G : List S41} {AM : Option Addr} {cM : Nat} (h : St w base s ok vF vT (.slice AM M.length cM) vG F T M G) (hb : base ≤ w.heap.size) (hn : M.length ≤ 100) (lo hi : Int) (has : Bool) (hm : may lo hi has) :
    Calls Try.prog 46 #[.pointer (some ⟨s, 0, none⟩), .agg #[.int .i64 lo, .int .i64 hi, .bool has]] w fun e w' => e = .returned (.tuple #[.int .i64 M.length, .nilIface]) ∧ ∃ AM' cM' g A c, St w' base s (fun k => ok k ∨ (w.heap.size ≤ k ∧ k ≠ g ∧ blk A ≠ some k)) vF vT (.slice AM' (M.length + 1) cM') vG F T (M ++ [[.pointer (some ⟨g, 0, none⟩)]]) G ∧
      Mm w' w.heap.size 144 g A (lo * 256).toNat c (List.replicate (lo * 256).toNat 0) (if has = true then hi else 16) ∧ Only w w' (fun k => k = s ∨ blk AM = some k) := by
  have hu := Try.underlying34
  have hsl := h.row.lt
  have HN := Aside0.mk (fun W : World => mnew W lo hi has hm)
  obtain ⟨most, hmost⟩ : ∃ m, m = (if has = true then hi else 16) := ⟨_, rfl⟩
  obtain ⟨n, hn2⟩ : ∃ m, m = (lo * 256).toNat := ⟨_, rfl⟩
  rw [← hmost, ← hn2] at HN ⊢
  clear hm hmost hn2
  have H := Aside0.mk h
  have hlt : ∀ k, blk AM = some k → k < w.heap.size := fun k hk => Kd.R_lt h.m k (by rw [ownBlock_slice]; exact hk)
  have HLT := Aside0.mk hlt
  clear h hlt
  go_enter Try.func46, Try.ntmps46
  go_upto_region 2 with (go_at_call 57; (refine (HN.out _).mono ?_); rintro e w1 ⟨g, A, c, rfl, hM1, hB1⟩; have HM1 := Aside0.mk hM1; have HB1 := Aside0.mk ((below_alloc (Below.refl w.heap.size w) (.cells #[.int .i64 lo, .int .i64 hi, .bool has] 38)).trans (below_mono hB1 (by simp))); clear hM1 hB1)
  have hS1 := H.out.below HB1.out
  have HS := Aside0.mk hS1
  have p0 := hS1.row.cell 2
  have p1 := hS1.row.frozen 2
  simp only [List.getElem?_toArray, List.getElem?_cons_zero, List.getElem?_cons_succ] at p0
  have HMX := Aside0.mk (HM1.out.mono (base' := w.heap.size) (by simp))
  clear hS1 HM1
  go_wp2_with (at_builtin; refine Kd.R_append (w0 := w1) (raw 1) base rfl (.tmp 20) (.tmp 22) 88 126 (.pointer none) 8 rfl Try.underlying88 (by kernel_rfl) rfl (by decide) (by decide) (.slice AM M.length cM) M [.pointer (some ⟨g, 0, none⟩)] [.pointer (some ⟨g, 0, none⟩)] (fun k => ok k ∨ (w.heap.size ≤ k ∧ k ≠ g ∧ blk A ≠ some k)) (fun _ => False) rfl rfl ⟨rfl, rfl, by intro u hu; simp only [List.mem_cons, List.mem_nil_iff, or_false] at hu; rcases hu with rfl <;> rfl⟩ (fun k hk => hk.elim) (fun k hk => .inr ⟨Nat.le_trans HB1.out.size hk, fun e => by have h9 := HMX.out.row.lt; omega, fun e => by have h9 := (HMX.out.own.lt k (by rw [ownBlock_slice]; exact e)).2; omega⟩) (Kd.R_mono HS.out.m (fun _ hk => .inl hk)) (Below.refl base _) (Nat.le_trans hb HB1.out.size) (by omega) ?_; rintro v3 w3 hR3 hB3 hg3 hat3; obtain ⟨A3, c3, rfl⟩ := Kd.R_slice hR3; (rw [List.length_append, List.length_singleton] at hR3 ⊢); have hg4 := hg3; have r3 := HS.out.row.grown hg3 (fun e => Kd.R_ne HS.out.m HS.out.row (by decide) e.symm); have q0 := r3.cell 2; have z0 := r3.frozen 2; (simp only [List.getElem?_toArray, List.getElem?_cons_zero, List.getElem?_cons_succ] at q0); have r4 := r3.put_ 2 (.slice A3 (M.length + 1) c3); have q4 := r4.cell 2; (simp only [List.getElem?_toArray, List.getElem?_cons_zero, List.getElem?_cons_succ, List.setIfInBounds_toArray, List.set_cons_zero, List.set_cons_succ] at q4); have HR3 := Aside0.mk hR3; have HG3 := Aside0.mk hg3; have R4 := Aside0.mk r4; clear hR3 hg3 hg4 hat3 hB3 r3 r4)
  go_ret2
  have S0 := HS.out
  have hf3 := Kd.R_over S0.f S0.m (by decide) HG3.out
  have ht3 := Kd.R_over S0.t S0.m (by decide) HG3.out
  have hgg3 := Kd.R_over S0.g S0.m (by decide) HG3.out
  have hg5 := HG3.out
  rw [ownBlock_slice] at hg5
  have hO : Only w (w3.setCell ⟨s, 2, none⟩ (.slice A3 (M.length + 1) c3)) (fun k => k = s ∨ blk AM = some k) :=
    Only.set (Only.grown (Only.of_below HB1.out) hg5 (fun k hk => .inl (.inr hk))) (.inl (.inl rfl)) _
  have hM3 := (HMX.out.keptN hg5 HLT.out).keptN (grown_set (World.grownBy.refl w3 (some s)) 2 (.slice A3 (M.length + 1) c3)) (fun k hk => by injection hk with hk; omega)
  refine ⟨by simp, A3, c3, g, A, c, ⟨S0.lo, by simpa using R4.out, Kd.R_mono (R_past hf3 (p := ⟨s, 2, none⟩) S0.lo _) (fun _ hk => .inl hk), Kd.R_mono (R_past ht3 (p := ⟨s, 2, none⟩) S0.lo _) (fun _ hk => .inl hk), R_past HR3.out (p := ⟨s, 2, none⟩) S0.lo _, Kd.R_mono (R_past hgg3 (p := ⟨s, 2, none⟩) S0.lo _) (fun _ hk => .inl hk)⟩, hM3, hO⟩
end Go.Proofs.Ytbelijoggbblgaa.Sp
