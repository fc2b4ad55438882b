import Derived.Test.YtbelijoggbblgaaSt4
namespace Go.Proofs.Ytbelijoggbblgaa.St
open Go.RowKit Go.Proofs.YtbelijoggbblgaaW.PrintWords Go.Proofs.YtbelijoggbblgaaW.PrintLast Go.Proofs.YtbelijoggbblgaaW.PrintMore Go.Proofs.Ytbelijoggbblgaa.PStorePlays
set_option linter.unusedVariables false
set_option linter.unusedSimpArgs false
set_option maxHeartbeats 2000000 in
theorem table_no {w : World} {base s : Nat} {vF vM vG vI : Value} {F : List S32} {T : List S94} {G : List S41} {AT : Option Addr} {cT : Nat} (h : St w base s vF (.slice AT T.length cT) vM vG vI F T G) (n : Int) (hn : ¬ (0 ≤ n ∧ n < T.length)) :
    Calls Try.prog 13 #[.pointer (some ⟨s, 0, none⟩), .int .i64 n] w fun e w' => e = .returned (.tuple #[.slice none 0 0, .bool false]) ∧ Below w.heap.size w w' := by
  obtain ⟨A', c', e1, hlc, hC⟩ := Kd.R_reads h.t
  simp only [Value.slice.injEq] at e1
  obtain ⟨rfl, _, rfl⟩ := e1
  have hf := table_f T n
  rw [decide_eq_false hn] at hf
  have p0 := h.row.cell 1
  simp only [List.getElem?_toArray, List.getElem?_cons_zero, List.getElem?_cons_succ] at p0
  have HC := Aside0.mk (fun W (hB : Below w.heap.size w W) => store_table.calls AT cT T n false W (Kd.C_below hC hB) hlc hf)
  clear h hC hf
  go_enter Try.func13, Try.ntmps13
  go_wp2_with (go_at_call 24; (with_reducible refine (HC.out _ (Below.refl _ _)).mono ?_); rintro e w1 ⟨rfl, ⟨nd, rfl⟩⟩)
  go_ret2
  exact ⟨rfl, pw_below_drewN (Below.refl _ _) _⟩
set_option maxHeartbeats 4000000 in
theorem table_in {w : World} {base s : Nat} {vF vM vG vI : Value} {F : List S32} {T : List S94} {G : List S41} {AT : Option Addr} {cT : Nat} (h : St w base s vF (.slice AT T.length cT) vM vG vI F T G) (n : Nat) (hn : n < T.length) (hl : T.length ≤ 100) (x : S94) (hx : T.getD n z94 = x) (k0 : x.f0.length * 8 ≤ 140737488351232) :
    Calls Try.prog 13 #[.pointer (some ⟨s, 0, none⟩), .int .i64 n] w fun e w' => ∃ A1 c1, e = .returned (.tuple #[.slice A1 x.f0.length c1, .bool true]) ∧ I64.R 3 w' w.heap.size (fun _ => True) (.slice A1 x.f0.length c1) x.f0 ∧ Below w.heap.size w w' := by
  obtain ⟨A', c', e1, hlc, hC⟩ := Kd.R_reads h.t
  simp only [Value.slice.injEq] at e1
  obtain ⟨rfl, _, rfl⟩ := e1
  have hf := table_f T n
  rw [decide_eq_true (show 0 ≤ (n : Int) ∧ (n : Int) < T.length by omega)] at hf
  have p0 := h.row.cell 1
  simp only [List.getElem?_toArray, List.getElem?_cons_zero, List.getElem?_cons_succ] at p0
  obtain ⟨ad, A0, c0, rfl, d0, d1, l0, g0⟩ := at_T94 hC n (by omega) (by omega)
  simp only [rd_T94, Int.toNat_natCast, hx] at d0 d1 l0 g0
  have HC := Aside0.mk (fun W (hB : Below w.heap.size w W) => store_table.calls (some ad) cT T n true W (Kd.C_below hC hB) hlc hf)
  have HP := Aside0.mk (fun W (hB : Below w.heap.size w W) => clone_calls (Kd.C_below g0 hB) l0 k0)
  have i0 : (0 : Int) ≤ n := by omega
  have i1 : (n : Int) < T.length := by omega
  clear h hC hf hx g0 k0
  go_enter Try.func13, Try.ntmps13
  go_wp2_with (first | (go_at_call 24; (with_reducible refine (HC.out _ (Below.refl _ _)).mono ?_); rintro e w1 ⟨rfl, ⟨nd, rfl⟩⟩) | (go_at_call 25; (with_reducible refine (HP.out _ (pw_below_drewN (Below.refl _ _) _)).mono ?_); rintro e w2 ⟨A1, c1, rfl, hA, hB⟩; have HA := Aside0.mk hA; have HB := Aside0.mk hB; clear hA hB))
  go_ret2
  refine ⟨A1, c1, rfl, Kd.R_lower HA.out (by simp), below_mono ((pw_below_drewN (Below.refl _ _) _).trans (below_mono HB.out (by simp))) (Nat.le_refl _)⟩
/-- May there be a table of these limits? -/
def tabOk (lo hi : Int) (has : Bool) : Prop := 0 ≤ lo ∧ lo ≤ 64 ∧ (has = true → lo ≤ hi ∧ hi ≤ 64)
set_option maxHeartbeats 2000000 in
theorem addTable_no (w : World) (s : Nat) (lo hi : Int) (has : Bool) (h : ¬ tabOk lo hi has) :
    Calls Try.prog 9 #[.pointer (some ⟨s, 0, none⟩), .agg #[.int .i64 lo, .int .i64 hi, .bool has]] w fun e w' => e = .returned (.tuple #[.int .i64 0, .iface 92 (.int .i64 1)]) ∧ Below w.heap.size w w' := by
  unfold tabOk at h
  cases has
  · by_cases a1 : lo < 0
    · have e1 : decide (lo < 0) = true := decide_eq_true a1
      go_enter Try.func9, Try.ntmps9
      go_wp2
      go_ret2
      exact ⟨rfl, below_alloc (Below.refl _ _) _⟩
    · have e1 : decide (lo < 0) = false := decide_eq_false a1
      have e2 : decide (64 < lo) = true := decide_eq_true (by simp at h; omega)
      go_enter Try.func9, Try.ntmps9
      go_wp2
      go_ret2
      exact ⟨rfl, below_alloc (Below.refl _ _) _⟩
  · by_cases a1 : lo < 0
    · have e1 : decide (lo < 0) = true := decide_eq_true a1
      go_enter Try.func9, Try.ntmps9
      go_wp2
      go_ret2
      exact ⟨rfl, below_alloc (Below.refl _ _) _⟩
    · have e1 : decide (lo < 0) = false := decide_eq_false a1
      by_cases a2 : 64 < lo
      · have e2 : decide (64 < lo) = true := decide_eq_true a2
        go_enter Try.func9, Try.ntmps9
        go_wp2
        go_ret2
        exact ⟨rfl, below_alloc (Below.refl _ _) _⟩
      · have e2 : decide (64 < lo) = false := decide_eq_false a2
        by_cases a3 : hi < lo
        · have e3 : decide (hi < lo) = true := decide_eq_true a3
          go_enter Try.func9, Try.ntmps9
          go_wp2
          go_ret2
          exact ⟨rfl, below_alloc (Below.refl _ _) _⟩
        · have e3 : decide (hi < lo) = false := decide_eq_false a3
          have e4 : decide (64 < hi) = true := decide_eq_true (by simp at h; omega)
          go_enter Try.func9, Try.ntmps9
          go_wp2
          go_ret2
          exact ⟨rfl, below_alloc (Below.refl _ _) _⟩
end Go.Proofs.Ytbelijoggbblgaa.St
