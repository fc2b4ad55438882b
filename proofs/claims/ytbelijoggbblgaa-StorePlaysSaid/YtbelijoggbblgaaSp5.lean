import Derived.Test.YtbelijoggbblgaaSp4
import Derived.Test.YtbelijoggbblgaaSp2
namespace Go.Proofs.Ytbelijoggbblgaa.Sp
open Go.RowKit Go.Proofs.YtbelijoggbblgaaW.PrintWords Go.Proofs.YtbelijoggbblgaaW.PrintLast Go.Proofs.YtbelijoggbblgaaW.PrintMore Go.Proofs.Ytbelijoggbblgaa.PStorePlays Go.Proofs.Ytbelijoggbblgaa.St
set_option linter.unusedVariables false
set_option linter.unusedSimpArgs false
variable {w : World} {base s : Nat} {ok : Nat → Prop} {vF vT vM vG : Value} {F : List S32} {T M : List (List Value)} {G : List S41}
theorem St.cT (h : St w base s ok vF vT vM vG F T M G) : ∃ A c, vT = .slice A T.length c ∧ (raw 2).C w A T.length T := by
  obtain ⟨A, c, e, _, hC⟩ := Kd.R_reads h.t
  exact ⟨A, c, e, hC⟩
theorem table_no (h : St w base s ok vF vT vM vG F T M G) (n : Int) (hn : ¬ (0 ≤ n ∧ n < T.length)) :
    Calls Try.prog 13 #[.pointer (some ⟨s, 0, none⟩), .int .i64 n] w fun e w' => e = .returned (.tuple #[.slice none 0 0, .bool false]) ∧ Below w.heap.size w w' := by
  obtain ⟨AT, cT, rfl, hC⟩ := h.cT
  have p0 := h.row.cell 1
  simp only [List.getElem?_toArray, List.getElem?_cons_zero, List.getElem?_cons_succ] at p0
  have HC := has94 AT T.length cT n w
  rw [decide_eq_false hn] at HC
  clear h hC
  go_enter Try.func13, Try.ntmps13
  go_wp2_with (go_at_call 24; (with_reducible refine HC.mono ?_); rintro e w1 ⟨rfl, ⟨nd, rfl⟩⟩)
  go_ret2
  exact ⟨rfl, pw_below_drewN (Below.refl _ _) _⟩
theorem table_in (h : St w base s ok vF vT vM vG F T M G) (n : Nat) (hn : n < T.length) {A0 : Option Addr} {c0 : Nat} {l : List Int} {mo : Int} (hx : T[n]? = some [.slice A0 l.length c0, .int .i64 mo]) (l0 : l.length ≤ c0) (g0 : I64.C w A0 l.length l) (k0 : l.length * 8 ≤ 140737488351232) :
    Calls Try.prog 13 #[.pointer (some ⟨s, 0, none⟩), .int .i64 n] w fun e w' => ∃ A1 c1, e = .returned (.tuple #[.slice A1 l.length c1, .bool true]) ∧ I64.R 3 w' w.heap.size (fun _ => True) (.slice A1 l.length c1) l ∧ Below w.heap.size w w' := by
  obtain ⟨AT, cT, rfl, hC⟩ := h.cT
  have p0 := h.row.cell 1
  simp only [List.getElem?_toArray, List.getElem?_cons_zero, List.getElem?_cons_succ] at p0
  obtain ⟨ad, rfl, d0, d1⟩ := raw2_at hC n hn _ _ hx
  have HC := has94 (some ad) T.length cT n w
  rw [decide_eq_true (show 0 ≤ (n : Int) ∧ (n : Int) < T.length by omega)] at HC
  have HP := Aside0.mk (fun W (hB : Below w.heap.size w W) => clone_calls (Kd.C_below g0 hB) l0 k0)
  have i0 : (0 : Int) ≤ n := by omega
  have i1 : (n : Int) < T.length := by omega
  clear h hC hx g0 k0
  go_enter Try.func13, Try.ntmps13
  go_wp2_with (first | (go_at_call 24; (with_reducible refine HC.mono ?_); rintro e w1 ⟨rfl, ⟨nd, rfl⟩⟩) | (go_at_call 25; (with_reducible refine (HP.out _ (pw_below_drewN (Below.refl _ _) _)).mono ?_); rintro e w2 ⟨A1, c1, rfl, hA, hB⟩; have HA := Aside0.mk hA; have HB := Aside0.mk hB; clear hA hB))
  go_ret2
  refine ⟨A1, c1, rfl, Kd.R_lower HA.out (by simp), below_mono ((pw_below_drewN (Below.refl _ _) _).trans (below_mono HB.out (by simp))) (Nat.le_refl _)⟩
theorem most_no (h : St w base s ok vF vT vM vG F T M G) (n : Int) (hn : ¬ (0 ≤ n ∧ n < T.length)) :
    Calls Try.prog 38 #[.pointer (some ⟨s, 0, none⟩), .int .i64 n] w fun e w' => e = .returned (.int .i64 (-1)) ∧ Drawn0 w w' := by
  obtain ⟨AT, cT, rfl, hC⟩ := h.cT
  have p0 := h.row.cell 1
  simp only [List.getElem?_toArray, List.getElem?_cons_zero, List.getElem?_cons_succ] at p0
  have HC := has94 AT T.length cT n w
  rw [decide_eq_false hn] at HC
  clear h hC
  go_enter Try.func38, Try.ntmps38
  go_wp2_with (go_at_call 24; (with_reducible refine HC.mono ?_); rintro e w1 ⟨rfl, ⟨nd, rfl⟩⟩)
  go_ret
  exact ⟨rfl, nd, rfl⟩
theorem most_in (h : St w base s ok vF vT vM vG F T M G) (n : Nat) (hn : n < T.length) {u : Value} {mo : Int} (hx : T[n]? = some [u, .int .i64 mo]) :
    Calls Try.prog 38 #[.pointer (some ⟨s, 0, none⟩), .int .i64 n] w fun e w' => e = .returned (.int .i64 mo) ∧ Drawn0 w w' := by
  obtain ⟨AT, cT, rfl, hC⟩ := h.cT
  have p0 := h.row.cell 1
  simp only [List.getElem?_toArray, List.getElem?_cons_zero, List.getElem?_cons_succ] at p0
  obtain ⟨ad, rfl, d0, d1⟩ := raw2_at hC n hn _ _ hx
  have HC := has94 (some ad) T.length cT n w
  rw [decide_eq_true (show 0 ≤ (n : Int) ∧ (n : Int) < T.length by omega)] at HC
  have i0 : (0 : Int) ≤ n := by omega
  have i1 : (n : Int) < T.length := by omega
  clear h hC hx
  go_enter Try.func38, Try.ntmps38
  go_wp2_with (go_at_call 24; (with_reducible refine HC.mono ?_); rintro e w1 ⟨rfl, ⟨nd, rfl⟩⟩)
  go_ret
  exact ⟨rfl, nd, rfl⟩
theorem mem_no (h : St w base s ok vF vT vM vG F T M G) (n : Int) (hn : ¬ (0 ≤ n ∧ n < M.length)) :
    Calls Try.prog 39 #[.pointer (some ⟨s, 0, none⟩), .int .i64 n] w fun e w' => e = .returned (.pointer none) ∧ Drawn0 w w' := by
  obtain ⟨AM, cM, rfl, _, hC⟩ := Kd.R_reads h.m
  have p0 := h.row.cell 2
  simp only [List.getElem?_toArray, List.getElem?_cons_zero, List.getElem?_cons_succ] at p0
  have HC := has126 AM M.length cM n w
  rw [decide_eq_false hn] at HC
  clear h hC
  go_enter Try.func39, Try.ntmps39
  go_wp2_with (go_at_call 50; (with_reducible refine HC.mono ?_); rintro e w1 ⟨rfl, ⟨nd, rfl⟩⟩)
  go_ret
  exact ⟨rfl, nd, rfl⟩
theorem mem_in (h : St w base s ok vF vT vM vG F T M G) (n : Nat) (hn : n < M.length) {u : Value} (hx : M[n]? = some [u]) :
    Calls Try.prog 39 #[.pointer (some ⟨s, 0, none⟩), .int .i64 n] w fun e w' => e = .returned u ∧ Drawn0 w w' := by
  obtain ⟨AM, cM, rfl, _, hC⟩ := Kd.R_reads h.m
  have p0 := h.row.cell 2
  simp only [List.getElem?_toArray, List.getElem?_cons_zero, List.getElem?_cons_succ] at p0
  obtain ⟨ad, rfl, d0⟩ := raw1_at hC n hn _ hx
  have HC := has126 (some ad) M.length cM n w
  rw [decide_eq_true (show 0 ≤ (n : Int) ∧ (n : Int) < M.length by omega)] at HC
  have i0 : (0 : Int) ≤ n := by omega
  have i1 : (n : Int) < M.length := by omega
  clear h hC hx
  go_enter Try.func39, Try.ntmps39
  go_wp2_with (go_at_call 50; (with_reducible refine HC.mono ?_); rintro e w1 ⟨rfl, ⟨nd, rfl⟩⟩)
  go_ret
  exact ⟨rfl, nd, rfl⟩
theorem cell_f (G : List S41) (n : Int) : api_Cell.f G n = some (decide (0 ≤ n ∧ n < G.length)) := by
  unfold api_Cell.f
  by_cases h : 0 ≤ n <;> by_cases h2 : n < (G.length : Int) <;> simp [h, h2]
theorem global_no (h : St w base s ok vF vT vM vG F T M G) (n : Int) (hn : ¬ (0 ≤ n ∧ n < G.length)) :
    Calls Try.prog 42 #[.pointer (some ⟨s, 0, none⟩), .int .i64 n] w fun e w' => e = .returned (.tuple #[.agg #[.int .i64 0, .bool false, .int .u64 0], .bool false]) ∧ Below w.heap.size w w' := by
  obtain ⟨AG, cG, rfl, hl, hC⟩ := Kd.R_reads h.g
  have p0 := (h.row.alloc (.cells #[.int .i64 0, .bool false, .int .u64 0] 41)).cell 3
  simp only [List.getElem?_toArray, List.getElem?_cons_zero, List.getElem?_cons_succ] at p0
  have hf := cell_f G n
  rw [decide_eq_false hn] at hf
  have HC := Aside0.mk (fun W (hB : Below w.heap.size w W) => api_Cell.calls AG cG G n false W (Kd.C_below hC hB) hl hf)
  clear h hC hf
  go_enter Try.func42, Try.ntmps42
  go_wp2_with (go_at_call 49; (with_reducible refine (HC.out _ (below_alloc (Below.refl _ _) _)).mono ?_); rintro e w1 ⟨rfl, ⟨nd, rfl⟩⟩)
  have r1 : Row ((w.alloc (.cells #[.int .i64 0, .bool false, .int .u64 0] 41)).drewN nd) w.heap.size 41 #[.int .i64 0, .bool false, .int .u64 0] := Row.made w 41 _ rfl
  have r2 := ((r1.put_ 0 (.int .i64 0)).put_ 1 (.bool false)).put_ 2 (.int .u64 0)
  have b1 : Below w.heap.size w ((w.alloc (.cells #[.int .i64 0, .bool false, .int .u64 0] 41)).drewN nd) := pw_below_drewN (below_alloc (Below.refl _ _) _) _
  have b2 := ((b1.setCell (p := ⟨w.heap.size, 0, none⟩) (Nat.le_refl _) (.int .i64 0)).setCell (p := ⟨w.heap.size, 1, none⟩) (Nat.le_refl _) (.bool false)).setCell (p := ⟨w.heap.size, 2, none⟩) (Nat.le_refl _) (.int .u64 0)
  try simp only [Exit.inBlock, Exit.then]
  refine bodyPost_ret (results_ct rfl _ _ w.heap.size 41 _ _ _ rfl r2 Try.underlying41 rfl (by kernel_rfl)) rfl ?_
  exact ⟨rfl, b2⟩
theorem global_in (h : St w base s ok vF vT vM vG F T M G) (n : Nat) (hn : n < G.length) (x : S41) (hx : G.getD n z41 = x) :
    Calls Try.prog 42 #[.pointer (some ⟨s, 0, none⟩), .int .i64 n] w fun e w' => e = .returned (.tuple #[.agg #[.int .i64 x.f0, .bool x.f1, .int .u64 x.f2], .bool true]) ∧ Below w.heap.size w w' := by
  obtain ⟨AG, cG, rfl, hl, hC⟩ := Kd.R_reads h.g
  have p0 := (h.row.alloc (.cells #[.int .i64 0, .bool false, .int .u64 0] 41)).cell 3
  simp only [List.getElem?_toArray, List.getElem?_cons_zero, List.getElem?_cons_succ] at p0
  have hf := cell_f G n
  rw [decide_eq_true (show 0 ≤ (n : Int) ∧ (n : Int) < G.length by omega)] at hf
  obtain ⟨ad, rfl, d0, d1, d2⟩ := at_T41 hC n (by omega) (by omega)
  simp only [rd_T41, Int.toNat_natCast, hx] at d0 d1 d2
  have D0 := cell_alloc d0 (.cells #[.int .i64 0, .bool false, .int .u64 0] 41)
  have D1 := cell_alloc d1 (.cells #[.int .i64 0, .bool false, .int .u64 0] 41)
  have D2 := cell_alloc d2 (.cells #[.int .i64 0, .bool false, .int .u64 0] 41)
  have HC := Aside0.mk (fun W (hB : Below w.heap.size w W) => api_Cell.calls (some ad) cG G n true W (Kd.C_below hC hB) hl hf)
  have i0 : (0 : Int) ≤ n := by omega
  have i1 : (n : Int) < G.length := by omega
  clear h hC hf hx d0 d1 d2
  go_enter Try.func42, Try.ntmps42
  go_wp2_with (go_at_call 49; (with_reducible refine (HC.out _ (below_alloc (Below.refl _ _) _)).mono ?_); rintro e w1 ⟨rfl, ⟨nd, rfl⟩⟩)
  have r1 : Row ((w.alloc (.cells #[.int .i64 0, .bool false, .int .u64 0] 41)).drewN nd) w.heap.size 41 #[.int .i64 0, .bool false, .int .u64 0] := Row.made w 41 _ rfl
  have r2 := ((r1.put_ 0 (.int .i64 x.f0)).put_ 1 (.bool x.f1)).put_ 2 (.int .u64 x.f2)
  have b1 : Below w.heap.size w ((w.alloc (.cells #[.int .i64 0, .bool false, .int .u64 0] 41)).drewN nd) := pw_below_drewN (below_alloc (Below.refl _ _) _) _
  have b2 := ((b1.setCell (p := ⟨w.heap.size, 0, none⟩) (Nat.le_refl _) (.int .i64 x.f0)).setCell (p := ⟨w.heap.size, 1, none⟩) (Nat.le_refl _) (.bool x.f1)).setCell (p := ⟨w.heap.size, 2, none⟩) (Nat.le_refl _) (.int .u64 x.f2)
  try simp only [Exit.inBlock, Exit.then]
  refine bodyPost_ret (results_ct rfl _ _ w.heap.size 41 _ _ _ rfl r2 Try.underlying41 rfl (by kernel_rfl)) rfl ?_
  exact ⟨rfl, b2⟩
theorem setGlobal_no (h : St w base s ok vF vT vM vG F T M G) (n : Int) (hn : ¬ (0 ≤ n ∧ n < G.length)) (v : Int) :
    Calls Try.prog 36 #[.pointer (some ⟨s, 0, none⟩), .int .i64 n, .int .u64 v] w fun e w' => e = .returned (.bool false) ∧ Drawn0 w w' := by
  obtain ⟨AG, cG, rfl, hl, hC⟩ := Kd.R_reads h.g
  have p0 := h.row.cell 3
  simp only [List.getElem?_toArray, List.getElem?_cons_zero, List.getElem?_cons_succ] at p0
  have hf := cell_f G n
  rw [decide_eq_false hn] at hf
  have HC := Aside0.mk (api_Cell.calls AG cG G n false w hC hl hf)
  clear h hC hf
  go_enter Try.func36, Try.ntmps36
  go_wp2_with (go_at_call 49; (with_reducible refine HC.out.mono ?_); rintro e w1 ⟨rfl, ⟨nd, rfl⟩⟩)
  go_ret
  exact ⟨rfl, nd, rfl⟩
theorem setGlobal_in (h : St w base s ok vF vT vM vG F T M G) (n : Nat) (hn : n < G.length) (x : S41) (hx : G[n]? = some x) (v : Int) :
    Calls Try.prog 36 #[.pointer (some ⟨s, 0, none⟩), .int .i64 n, .int .u64 v] w fun e w' => e = .returned (.bool true) ∧ St w' base s ok vF vT vM vG F T M (G.set n ⟨x.f0, x.f1, v⟩) ∧ Only w w' (fun k => vG.ownBlock = some k) := by
  obtain ⟨AG, cG, rfl, hl, hC⟩ := Kd.R_reads h.g
  have p0 := h.row.cell 3
  simp only [List.getElem?_toArray, List.getElem?_cons_zero, List.getElem?_cons_succ] at p0
  have hf := cell_f G n
  rw [decide_eq_true (show 0 ≤ (n : Int) ∧ (n : Int) < G.length by omega)] at hf
  obtain ⟨ad, rfl, d0, d1, d2⟩ := at_T41 hC n (by omega) (by omega)
  obtain ⟨g, rfl, hz⟩ := R_some h.g
  simp only [rd_T41, Int.toNat_natCast] at d0 d1 d2
  have HC := Aside0.mk (api_Cell.calls (some ⟨g, 0, none⟩) cG G n true w hC hl hf)
  have i0 : (0 : Int) ≤ n := by omega
  have i1 : (n : Int) < G.length := by omega
  have z2 := hz (n * 3 + 2)
  have d2' : w.cell? ⟨g, n * 3 + 2, none⟩ = some (.int .u64 (G.getD n z41).f2) := by
    rw [add_plain] at d2
    exact d2
  have H := Aside0.mk h
  clear h hC hf hz d0 d1 d2
  go_enter Try.func36, Try.ntmps36
  go_wp2_with (go_at_call 49; (with_reducible refine HC.out.mono ?_); rintro e w1 ⟨rfl, ⟨nd, rfl⟩⟩)
  go_ret
  have H2 := H.out.drewN nd
  have hp := R_poke H2.g n 2 (by decide) (.int .u64 v) ⟨x.f0, x.f1, v⟩ k41_M_mv (fun W o y cs hy hM => by
    rw [hx] at hy
    obtain rfl := Option.some.inj hy
    rw [k41_openM hM]
    exact k41_mkM _ _ _ _)
  have hlo : base ≤ g := Kd.R_base H2.g g rfl
  have hO : Only w ((w.drewN nd).setCell ⟨g, n * 3 + 2, none⟩ (.int .u64 v)) (fun k => (Value.slice (some ⟨g, 0, none⟩) G.length cG).ownBlock = some k) := Only.set (S := fun k => (Value.slice (some ⟨g, 0, none⟩) G.length cG).ownBlock = some k) (g := g) (i := n * 3 + 2) ((Only.refl w _).drewN nd) (.inl rfl) _
  refine ⟨rfl, ⟨H2.lo, H2.row.off (p := ⟨g, _, none⟩) (by have := H2.lo; show s ≠ g; omega) _, Kd.R_over H2.f H2.g (by decide) hp.2, Kd.R_over H2.t H2.g (by decide) hp.2, Kd.R_over H2.m H2.g (by decide) hp.2, ?_⟩, hO⟩
  exact hp.1
end Go.Proofs.Ytbelijoggbblgaa.Sp
