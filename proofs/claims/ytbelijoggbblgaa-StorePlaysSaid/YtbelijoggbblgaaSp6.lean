import Derived.Test.YtbelijoggbblgaaSp4
namespace Go.Proofs.Ytbelijoggbblgaa.Sp
open Go.RowKit Go.Proofs.YtbelijoggbblgaaW.PrintWords Go.Proofs.YtbelijoggbblgaaW.PrintLast Go.Proofs.YtbelijoggbblgaaW.PrintMore Go.Proofs.Ytbelijoggbblgaa.PStorePlays Go.Proofs.Ytbelijoggbblgaa.St
set_option linter.unusedVariables false
set_option linter.unusedSimpArgs false
variable {w : World} {base s : Nat} {ok : Nat → Prop} {vF vT vM vG : Value} {F : List S32} {T M : List (List Value)} {G : List S41}
theorem has_f (l : List Int) (n : Int) : store_has_int.f l n = some (decide (0 ≤ n ∧ n < l.length)) := by
  unfold store_has_int.f
  by_cases h : 0 ≤ n <;> by_cases h2 : n < (l.length : Int) <;> simp [h, h2]
theorem setTable_no (h : St w base s ok vF vT vM vG F T M G) (n : Int) (hn : ¬ (0 ≤ n ∧ n < T.length)) (at_ f : Int) :
    Calls Try.prog 35 #[.pointer (some ⟨s, 0, none⟩), .int .i64 n, .int .i64 at_, .int .i64 f] w fun e w' => e = .returned (.bool false) ∧ Drawn0 w w' := by
  obtain ⟨AT, cT, rfl, _, hC⟩ := Kd.R_reads h.t
  have p0 := h.row.cell 1
  simp only [List.getElem?_toArray, List.getElem?_cons_zero, List.getElem?_cons_succ] at p0
  have HC := has94 AT T.length cT n w
  rw [decide_eq_false hn] at HC
  clear h hC
  go_enter Try.func35, Try.ntmps35
  go_wp2_with (go_at_call 24; (with_reducible refine HC.mono ?_); rintro e w1 ⟨rfl, ⟨nd, rfl⟩⟩)
  go_ret
  exact ⟨rfl, nd, rfl⟩
theorem setTable_out (h : St w base s ok vF vT vM vG F T M G) (n : Nat) (hn : n < T.length) {A0 : Option Addr} {c0 : Nat} {l : List Int} {mo : Int} (hx : T[n]? = some [.slice A0 l.length c0, .int .i64 mo]) (l0 : l.length ≤ c0) (g0 : I64.C w A0 l.length l) (at_ f : Int) (ha : ¬ (0 ≤ at_ ∧ at_ < l.length)) :
    Calls Try.prog 35 #[.pointer (some ⟨s, 0, none⟩), .int .i64 n, .int .i64 at_, .int .i64 f] w fun e w' => e = .returned (.bool false) ∧ Drawn0 w w' := by
  obtain ⟨AT, cT, rfl, _, hC⟩ := Kd.R_reads h.t
  have p0 := h.row.cell 1
  simp only [List.getElem?_toArray, List.getElem?_cons_zero, List.getElem?_cons_succ] at p0
  obtain ⟨ad, rfl, d0, d1⟩ := raw2_at hC n hn _ _ hx
  have HC := has94 (some ad) T.length cT n w
  rw [decide_eq_true (show 0 ≤ (n : Int) ∧ (n : Int) < T.length by omega)] at HC
  have hf := has_f l at_
  rw [decide_eq_false ha] at hf
  have HD := Aside0.mk (fun k : Nat => store_has_int.calls A0 c0 l at_ false (w.drewN k) (C_drewN g0 k) l0 hf)
  have i0 : (0 : Int) ≤ n := by omega
  have i1 : (n : Int) < T.length := by omega
  clear h hC hx g0 hf
  go_enter Try.func35, Try.ntmps35
  go_wp2_with (first | (go_at_call 24; (with_reducible refine HC.mono ?_); rintro e w1 ⟨rfl, ⟨nd, rfl⟩⟩) | (go_at_call 32; (with_reducible refine (HD.out _).mono ?_); rintro e w2 ⟨rfl, ⟨nd2, rfl⟩⟩))
  go_ret
  exact ⟨rfl, nd + nd2, rfl⟩
theorem setTable_in (h : St w base s ok vF vT vM vG F T M G) (n : Nat) (hn : n < T.length) {b c0 : Nat} {l : List Int} {mo : Int} (hx : T[n]? = some [.slice (some ⟨b, 0, none⟩) l.length c0, .int .i64 mo]) {bs : Nat} {okl : Nat → Prop} (hl : I64.R 3 w bs okl (.slice (some ⟨b, 0, none⟩) l.length c0) l) (i : Nat) (hi : i < l.length) (f : Int) :
    Calls Try.prog 35 #[.pointer (some ⟨s, 0, none⟩), .int .i64 n, .int .i64 i, .int .i64 f] w fun e w' => e = .returned (.bool true) ∧ ∃ nd, w' = (w.drewN nd).setCell ⟨b, i, none⟩ (.int .i64 f) := by
  obtain ⟨AT, cT, rfl, _, hC⟩ := Kd.R_reads h.t
  have p0 := h.row.cell 1
  simp only [List.getElem?_toArray, List.getElem?_cons_zero, List.getElem?_cons_succ] at p0
  obtain ⟨ad, rfl, d0, d1⟩ := raw2_at hC n hn _ _ hx
  have HC := has94 (some ad) T.length cT n w
  rw [decide_eq_true (show 0 ≤ (n : Int) ∧ (n : Int) < T.length by omega)] at HC
  have hf := has_f l i
  rw [decide_eq_true (show 0 ≤ (i : Int) ∧ (i : Int) < l.length by omega)] at hf
  obtain ⟨_, _, e0, l0, g0⟩ := Kd.R_reads hl
  simp only [Value.slice.injEq] at e0
  obtain ⟨rfl, _, rfl⟩ := e0
  obtain ⟨q0, q1⟩ := Kd.R_cell (0 : Int) hl i (by omega) (by omega)
  rw [Int.toNat_natCast] at q0 q1
  have HD := Aside0.mk (fun k : Nat => store_has_int.calls (some ⟨b, 0, none⟩) c0 l i true (w.drewN k) (C_drewN g0 k) l0 hf)
  have i0 : (0 : Int) ≤ n := by omega
  have i1 : (n : Int) < T.length := by omega
  have j0 : (0 : Int) ≤ i := by omega
  have j1 : (i : Int) < l.length := by omega
  clear h hC hx hl g0 hf
  go_enter Try.func35, Try.ntmps35
  go_wp2_with (first | (go_at_call 24; (with_reducible refine HC.mono ?_); rintro e w1 ⟨rfl, ⟨nd, rfl⟩⟩) | (go_at_call 32; (with_reducible refine (HD.out _).mono ?_); rintro e w2 ⟨rfl, ⟨nd2, rfl⟩⟩))
  go_ret
  exact ⟨rfl, nd + nd2, rfl⟩
end Go.Proofs.Ytbelijoggbblgaa.Sp
