import Derived.Test.YtbelijoggbblgaaSt0
import Derived.Deep.RegionLaw
namespace Go.Proofs.Ytbelijoggbblgaa.Sp
open Go.RowKit Go.Proofs.YtbelijoggbblgaaW.PrintWords Go.Proofs.YtbelijoggbblgaaW.PrintLast Go.Proofs.YtbelijoggbblgaaW.PrintMore Go.Proofs.Ytbelijoggbblgaa.PStorePlays Go.Proofs.Ytbelijoggbblgaa.St
set_option linter.unusedVariables false
set_option linter.unusedSimpArgs false
/-- Elements as their cells are. -/
def raw (n : Nat) : Kd (List Value) where
  sz := n
  E := []
  K := fun _ x cs => cs = x ∧ x.length = n ∧ ∀ u ∈ x, u.oneCell' = true
  M := fun _ _ _ x cs => cs = x ∧ x.length = n ∧ ∀ u ∈ x, u.oneCell' = true
  K_len := fun h => by rw [h.1]; exact h.2.1
  K_one := fun h u hu => by rw [h.1] at hu; exact h.2.2 u hu
  K_below := fun _ h => h
  K_of_M := fun h => h
  M_mono := fun _ h => h
  M_bound := fun h => h
  M_move := fun _ h => h
  M_lower := fun _ h => h
/-- A store: the record's block, and what its rows are. -/
structure St (w : World) (base s : Nat) (ok : Nat → Prop) (vF vT vM vG : Value) (F : List S32) (T M : List (List Value)) (G : List S41) : Prop where
  lo : s < base
  row : Row w s 90 #[vF, vT, vM, vG, .slice none 0 0]
  f : k32.R 32 w base ok vF F
  t : (raw 2).R 94 w base ok vT T
  m : (raw 1).R 126 w base ok vM M
  g : k41.R 41 w base ok vG G
section
variable {w w1 : World} {base s : Nat} {ok ok' : Nat → Prop} {vF vT vM vG : Value} {F : List S32} {T M : List (List Value)} {G : List S41}
theorem R_stepB {α : Type} {d : Kd α} {e : Nat} {w w1 : World} {base : Nat} {ok : Nat → Prop} {v : Value} {xs : List α} (h : d.R e w base ok v xs) (hm : ∀ k, ok k → base ≤ k → k < w.heap.size → w1.heap[k]? = w.heap[k]?) : d.R e w1 base ok v xs :=
  Kd.R_mono (Kd.R_move (Kd.R_bound h) (fun k hk => hm k hk.1 hk.2.1 hk.2.2.1)) (fun _ hk => hk.1)
theorem St.step (h : St w base s ok vF vT vM vG F T M G) (hm : ∀ k, ((ok k ∧ base ≤ k) ∨ k = s) → k < w.heap.size → w1.heap[k]? = w.heap[k]?) : St w1 base s ok vF vT vM vG F T M G :=
  ⟨h.lo, (hm s (.inr rfl) h.row.lt).trans h.row, R_stepB h.f (fun k ho hk => hm k (.inl ⟨ho, hk⟩)), R_stepB h.t (fun k ho hk => hm k (.inl ⟨ho, hk⟩)), R_stepB h.m (fun k ho hk => hm k (.inl ⟨ho, hk⟩)), R_stepB h.g (fun k ho hk => hm k (.inl ⟨ho, hk⟩))⟩
theorem St.mono (h : St w base s ok vF vT vM vG F T M G) (hk : ∀ k, ok k → ok' k) : St w base s ok' vF vT vM vG F T M G := ⟨h.lo, h.row, Kd.R_mono h.f hk, Kd.R_mono h.t hk, Kd.R_mono h.m hk, Kd.R_mono h.g hk⟩
/-- As St.mono, but of blocks that are. -/
theorem R_monoB {α : Type} {d : Kd α} {e : Nat} {w : World} {base : Nat} {ok ok' : Nat → Prop} {v : Value} {xs : List α} (h : d.R e w base ok v xs) (hk : ∀ k, ok k → base ≤ k → k < w.heap.size → ok' k) : d.R e w base ok' v xs := Kd.R_mono (Kd.R_bound h) (fun k q => hk k q.1 q.2.1 q.2.2.1)
theorem St.monoB (h : St w base s ok vF vT vM vG F T M G) (hk : ∀ k, ok k → base ≤ k → k < w.heap.size → ok' k) : St w base s ok' vF vT vM vG F T M G := ⟨h.lo, h.row, R_monoB h.f hk, R_monoB h.t hk, R_monoB h.m hk, R_monoB h.g hk⟩
theorem St.below (h : St w base s ok vF vT vM vG F T M G) (hb : Below w.heap.size w w1) : St w1 base s ok vF vT vM vG F T M G := h.step (fun k _ hk => hb.block k hk)
theorem St.alloc (h : St w base s ok vF vT vM vG F T M G) (o : Obj) : St (w.alloc o) base s ok vF vT vM vG F T M G := h.below (below_alloc (Below.refl _ _) o)
theorem St.drew (h : St w base s ok vF vT vM vG F T M G) : St w.drew base s ok vF vT vM vG F T M G := ⟨h.lo, h.row, Kd.R_drew h.f, Kd.R_drew h.t, Kd.R_drew h.m, Kd.R_drew h.g⟩
theorem St.drewN (h : St w base s ok vF vT vM vG F T M G) (n : Nat) : St (w.drewN n) base s ok vF vT vM vG F T M G := ⟨h.lo, h.row, Kd.R_drewN h.f n, Kd.R_drewN h.t n, Kd.R_drewN h.m n, Kd.R_drewN h.g n⟩
end
set_option maxHeartbeats 2000000 in
theorem addFunc_calls {w : World} {base s : Nat} {ok : Nat → Prop} {vT vM vG : Value} {F : List S32} {T M : List (List Value)} {G : List S41} {AF : Option Addr} {cF : Nat} (h : St w base s ok (.slice AF F.length cF) vT vM vG F T M G) (hb : base ≤ w.heap.size) (hn : F.length ≤ 100)
    {A B : Option Addr} {c d : Nat} {xs ys : List Int} (hx : I64.C w A xs.length xs) (hc : xs.length ≤ c) (kx : xs.length * 8 ≤ 140737488351232) (hy : I64.C w B ys.length ys) (hd : ys.length ≤ d) (ky : ys.length * 8 ≤ 140737488351232) (inst fn ans : Int) :
    Calls Try.prog 8 #[.pointer (some ⟨s, 0, none⟩), .agg #[.slice A xs.length c, .slice B ys.length d, .int .i64 inst, .int .i64 fn, .int .u64 ans]] w fun e w' => e = .returned (.int .i64 F.length) ∧ ∃ AF' cF', St w' base s (fun k => ok k ∨ w.heap.size ≤ k) (.slice AF' (F.length + 1) cF') vT vM vG (F ++ [⟨⟨xs, ys⟩, inst, fn, ans⟩]) T M G ∧ Only w w' (fun k => k = s ∨ blk AF = some k) := by
  have H := Aside0.mk (h.alloc (.cells #[.slice A xs.length c, .slice B ys.length d, .int .i64 inst, .int .i64 fn, .int .u64 ans] 32))
  have HC := Aside0.mk (copied_calls (Kd.C_below hx (below_alloc (Below.refl w.heap.size w) (.cells #[.slice A xs.length c, .slice B ys.length d, .int .i64 inst, .int .i64 fn, .int .u64 ans] 32))) hc kx (Kd.C_below hy (below_alloc (Below.refl w.heap.size w) (.cells #[.slice A xs.length c, .slice B ys.length d, .int .i64 inst, .int .i64 fn, .int .u64 ans] 32))) hd ky)
  have hR : Row (w.alloc (.cells #[.slice A xs.length c, .slice B ys.length d, .int .i64 inst, .int .i64 fn, .int .u64 ans] 32)) w.heap.size 32 #[.slice A xs.length c, .slice B ys.length d, .int .i64 inst, .int .i64 fn, .int .u64 ans] := Row.made _ _ _ rfl
  have HR := Aside0.mk hR
  have HS := Aside0.mk h
  clear h hx kx hy ky hR
  go_enter Try.func8, Try.ntmps8
  go_wp2_with (go_at_call 22; (refine HC.out.mono ?_); rintro e w1 ⟨A1, c1, B1, d1, rfl, hA1, hB1, hBel⟩; have r1 := HR.out.below hBel (by simp); have q0 := r1.cell 0; have q1 := r1.cell 1;  have z0 := r1.frozen 0; have z1 := r1.frozen 1; simp only [List.getElem?_toArray, List.getElem?_cons_zero, List.getElem?_cons_succ] at q0 q1)
  obtain ⟨w2, hw2⟩ : ∃ w2, w2 = (w1.setCell ⟨w.heap.size, 0, none⟩ (.slice A1 xs.length c1)).setCell ⟨w.heap.size, 1, none⟩ (.slice B1 ys.length d1) := ⟨_, rfl⟩
  rw [← hw2]
  have e1 : w.heap.size + 1 = (w.alloc (.cells #[.slice A xs.length c, .slice B ys.length d, .int .i64 inst, .int .i64 fn, .int .u64 ans] 32)).heap.size := by simp
  have hA2 : I64.R 3 w2.drew base (fun k => w.heap.size < k) (.slice A1 xs.length c1) xs := by
    rw [hw2]
    exact Kd.R_drew (Kd.R_lower (R_past (R_past (Kd.R_mono (Kd.R_bound hA1) (fun k hk => by have := hk.2.1; rw [← e1] at this; exact this)) (p := ⟨_, 0, none⟩) (by simp) _) (p := ⟨_, 1, none⟩) (by simp) _) (by rw [← e1]; omega))
  have hB2 : I64.R 3 w2.drew base (fun k => w.heap.size < k) (.slice B1 ys.length d1) ys := by
    rw [hw2]
    exact Kd.R_drew (Kd.R_lower (R_past (R_past (Kd.R_mono (Kd.R_bound hB1) (fun k hk => by have := hk.2.1; rw [← e1] at this; exact this)) (p := ⟨_, 0, none⟩) (by simp) _) (p := ⟨_, 1, none⟩) (by simp) _) (by rw [← e1]; omega))
  have hb2 : Below w.heap.size w w2 := by
    rw [hw2]
    exact ((((below_alloc (Below.refl w.heap.size w) _).trans (below_mono hBel (by simp))).setCell (p := ⟨_, 0, none⟩) (Nat.le_refl _) _).setCell (p := ⟨_, 1, none⟩) (Nat.le_refl _) _)
  have r2 : Row w2 w.heap.size 32 #[.slice A1 xs.length c1, .slice B1 ys.length d1, .int .i64 inst, .int .i64 fn, .int .u64 ans] := by
    rw [hw2]
    exact (r1.put_ 0 (.slice A1 xs.length c1)).put_ 1 (.slice B1 ys.length d1)
  have S0 := HS.out
  have hS2 : St w2.drew base s ok (.slice AF F.length cF) vT vM vG F T M G := (S0.below hb2).drew
  have hlt : ∀ k, blk AF = some k → k < w.heap.size := fun k hk => Kd.R_lt S0.f k (by rw [ownBlock_slice]; exact hk)
  clear hw2 hA1 hB1 hBel e1 H HC HR HS q0 q1 z0 z1 r1
  have p0 := (S0.below hb2).row.cell 0
  have p1 := (S0.below hb2).row.frozen 0
  have p7 := ((S0.below hb2).row.alloc (.cells #[.slice A1 xs.length c1, .slice B1 ys.length d1, .int .i64 inst, .int .i64 fn, .int .u64 ans] 32)).cell 0
  have p2 := r2.cell 0
  have p3 := r2.cell 1
  have p4 := r2.cell 2
  have p5 := r2.cell 3
  have p6 := r2.cell 4
  simp only [List.getElem?_toArray, List.getElem?_cons_zero, List.getElem?_cons_succ] at p0 p2 p3 p4 p5 p6 p7
  have n0 := World.new_ne _ _ p0
  have n2 := World.new_ne _ _ p2
  have n3 := World.new_ne _ _ p3
  have n4 := World.new_ne _ _ p4
  have n5 := World.new_ne _ _ p5
  have n6 := World.new_ne _ _ p6
  have HS := Aside0.mk hS2
  have HS0 := Aside0.mk S0
  have HA2 := Aside0.mk hA2
  have HB2 := Aside0.mk hB2
  have HBe := Aside0.mk hb2
  have HR2 := Aside0.mk r2
  have HLT := Aside0.mk hlt
  clear hS2 S0 hA2 hB2 hb2 r2 hlt
  go_region_law
    (first
      | (refine Kd.R_append_step k32 base (by rfl) (.tmp 13) (.tmp 15) 77 32 (.agg #[.slice none 0 0, .slice none 0 0, .int .i64 0, .int .i64 0, .int .u64 0]) 72 rfl Try.underlying77 (by kernel_rfl) rfl (by decide) (by decide) (.slice AF F.length cF) F ⟨⟨xs, ys⟩, inst, fn, ans⟩ [.slice A1 xs.length c1, .slice B1 ys.length d1, .int .i64 inst, .int .i64 fn, .int .u64 ans] (fun k => ok k ∨ w.heap.size ≤ k) (fun k => w.heap.size < k) rfl (by rfl) (k32_mkM _ _ _ _ HA2.out HB2.out) (fun k hk => ⟨.inr (Nat.le_of_lt hk), fun e => by rw [ownBlock_slice] at e; have := HLT.out k e.symm; omega⟩) (fun k hk => .inr (Nat.le_trans HBe.out.size hk)) (Kd.R_mono HS.out.f (fun _ hk => .inl hk)) (Below.refl base _) (Nat.le_trans hb HBe.out.size) (by omega) ?_
         rintro v3 w3 hR3 hB3 hg3 hat3
         obtain ⟨A3, c3, rfl⟩ := Kd.R_slice hR3
         rw [List.length_append, List.length_singleton] at hR3 ⊢
         have r3 := HS.out.row.grown hg3 (fun e => Kd.R_ne HS.out.f HS.out.row (by decide) e.symm)
         have q0 := r3.cell 0
         have z0 := r3.frozen 0
         simp only [List.getElem?_toArray, List.getElem?_cons_zero, List.getElem?_cons_succ] at q0))
  all_goals
    have r4 := r3.put_ 0 (.slice A3 (F.length + 1) c3)
    have ht3 := Kd.R_over HS.out.t HS.out.f (by decide) hg3
    have hm3 := Kd.R_over HS.out.m HS.out.f (by decide) hg3
    have hg4 := Kd.R_over HS.out.g HS.out.f (by decide) hg3
    have hs4 : St (w3.setCell ⟨s, 0, none⟩ (.slice A3 (F.length + 1) c3)) base s (fun k => ok k ∨ w.heap.size ≤ k) (.slice A3 (F.length + 1) c3) vT vM vG (F ++ [⟨⟨xs, ys⟩, inst, fn, ans⟩]) T M G :=
      ⟨HS.out.lo, by simpa using r4, R_past hR3 (p := ⟨s, 0, none⟩) HS.out.lo _, Kd.R_mono (R_past ht3 (p := ⟨s, 0, none⟩) HS.out.lo _) (fun _ hk => .inl hk), Kd.R_mono (R_past hm3 (p := ⟨s, 0, none⟩) HS.out.lo _) (fun _ hk => .inl hk), Kd.R_mono (R_past hg4 (p := ⟨s, 0, none⟩) HS.out.lo _) (fun _ hk => .inl hk)⟩
    rw [ownBlock_slice] at hg3
    have hO : Only w (w3.setCell ⟨s, 0, none⟩ (.slice A3 (F.length + 1) c3)) (fun k => k = s ∨ blk AF = some k) := by
      refine Only.set (Only.grown ((Only.of_below HBe.out).drew) hg3 (fun k hk => .inl (.inr hk))) (.inl (.inl rfl)) _
    have q4 := r4.cell 0
    simp only [List.getElem?_toArray, List.getElem?_cons_zero, List.getElem?_cons_succ, List.setIfInBounds_toArray, List.set_cons_zero, List.set_cons_succ] at q4
    have HS4 := Aside0.mk hs4
    have HO := Aside0.mk hO
    clear HS HS0 hs4 hO hR3 hB3 hg3 hat3 r3 r4 ht3 hm3 hg4 z0 q0 p0 p1 p2 p3 p4 p5 p6 p7 n0 n2 n3 n4 n5 n6
    go_wp2
    go_ret
    exact ⟨by simp, A3, c3, HS4.out, HO.out⟩
end Go.Proofs.Ytbelijoggbblgaa.Sp
