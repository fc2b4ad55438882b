import Derived.Test.YtbelijoggbblgaaSt7
namespace Go.Proofs.Ytbelijoggbblgaa.St
open Go.RowKit Go.Proofs.YtbelijoggbblgaaW.PrintWords Go.Proofs.YtbelijoggbblgaaW.PrintLast Go.Proofs.YtbelijoggbblgaaW.PrintMore Go.Proofs.Ytbelijoggbblgaa.PStorePlays
set_option linter.unusedVariables false
set_option linter.unusedSimpArgs false
theorem Row.below' {w w' : World} (hb : Below w.heap.size w w') {g : Nat} {t : TypeId} {cs : Array Value} (h : Row w g t cs) : Row w' g t cs := h.below hb h.lt
theorem below_next {w2 V w' : World} (hV : Below w2.heap.size w2 V) (h : Below V.heap.size V w') : Below w2.heap.size w2 w' := hV.trans (below_mono h hV.size)
/-- A copy of a row: it reads as that; where it has an element it is the call's own, laid behind m. -/
structure Pr (w : World) (m : Nat) (A : Option Addr) (c : Nat) (xs : List Int) : Prop where
  le : xs.length ≤ c
  rd : I64.C w A xs.length xs
  own : 0 < xs.length → I64.R 3 w m (fun _ => True) (.slice A xs.length c) xs
theorem Pr.below {w w' : World} {m : Nat} {A : Option Addr} {c : Nat} {xs : List Int} (h : Pr w m A c xs) (hb : Below w.heap.size w w') : Pr w' m A c xs := ⟨h.le, Kd.C_below h.rd hb, fun hp => Kd.R_below (h.own hp) hb⟩
theorem Pr.lower {w : World} {m m' : Nat} {A : Option Addr} {c : Nat} {xs : List Int} (h : Pr w m A c xs) (hm : m' ≤ m) : Pr w m' A c xs := ⟨h.le, h.rd, fun hp => Kd.R_lower (h.own hp) hm⟩
theorem C_none (w : World) (A : Option Addr) (h : I64.C w A ([] : List Int).length []) (B : Option Addr) : I64.C w B ([] : List Int).length [] := ⟨rfl, h.2.1, fun hp => absurd hp (Nat.lt_irrefl 0)⟩
theorem run_copy {V : World} (b : Addr) {A : Option Addr} {c : Nat} {xs : List Int} (h : I64.C V A xs.length xs) (hc : xs.length ≤ c) (hn : xs.length ≤ 300) (ty : TypeId) :
    ∃ A' c' w', (Builtin.append_ #[23, 23] ty #[.slice (some b) 0 0, .slice A xs.length c]).run Try.prog V = .ok (.slice A' xs.length c') w' ∧ Pr w' V.heap.size A' c' xs ∧ Below V.heap.size V w' := by
  obtain ⟨i0, hi, hz0, hz1, hz2⟩ := info_parts info3
  rcases Nat.eq_zero_or_pos xs.length with h0 | h0
  · obtain rfl : xs = [] := List.eq_nil_of_length_eq_zero h0
    have hr : (Builtin.append_ #[23, 23] ty #[.slice (some b) 0 0, .slice A ([] : List Int).length c]).run Try.prog V = .ok (.slice (some b) 0 0) V := by
      cases A <;> simp [Builtin.append_, run_underlying Try.underlying23, sizeOf, typeInfo, hi, Builtin.lenOf, hz1, hz2, hz0, Builtin.firstCells, storeCells, loadCells, loadCellsFrom, Result.andThen]
    exact ⟨some b, 0, V, hr, ⟨Nat.le_refl _, ⟨rfl, by decide, fun hp => absurd hp (Nat.lt_irrefl 0)⟩, fun hp => absurd hp (Nat.lt_irrefl 0)⟩, Below.refl _ _⟩
  · obtain ⟨ad, rfl, _⟩ := h.2.2 h0
    obtain ⟨v', w', hr, ho, hg⟩ := run_append_arg_grows (P := Try.prog) V 23 ty 3 i0 (.int .i64 0) 1 8 Try.underlying23 hi hz0 hz1 hz2 rfl (by decide) b 0 0 [] rfl (by intro j u hj; cases hj) ad xs.length c (nums .i64 xs) (by simp [nums]) (src_news h ad rfl) (by omega) (by unfold maxLen; omega) (by omega)
    have hR : I64.R 3 w' V.heap.size (fun _ => True) v' xs := by
      refine Kd.R_of_own ?_ (fun _ _ => trivial)
      simpa [nums, encs] using ho
    obtain ⟨A', c', e, hl, hC⟩ := Kd.R_reads hR
    subst e
    exact ⟨A', c', w', hr, ⟨hl, hC, fun _ => hR⟩, ⟨hg.os, hg.tape, hg.output, hg.size, fun k hk => hg.block k hk (by simp)⟩⟩
theorem step_copy {V : World} {ops : Array Oper} {o : Oper} {a : Act} {K : Act → World → Prop} {Q : Exit → Act → World → Prop} {E : Prop} (hw : Region.wanted o (yielded ops a.tmps) = true) (s x : Operand)
    (ho : o.op = .call { callee := .builtin .append, args := #[s, x], argTypes := #[23, 23] }) (b : Addr) {A : Option Addr} {c : Nat} {xs : List Int} (hs : a.eval s = .slice (some b) 0 0) (hx : a.eval x = .slice A xs.length c)
    (h : I64.C V A xs.length xs) (hc : xs.length ≤ c) (hn : xs.length ≤ 300)
    (hk : ∀ A' c' w', Pr w' V.heap.size A' c' xs → Below V.heap.size V w' → K (a.put o.dst (.slice A' xs.length c')) w') :
    if Region.wanted o (yielded ops a.tmps) = true then Oper.wp Try.prog o a V K Q else E := by
  rw [if_pos hw]
  obtain ⟨A', c', w', hr, hP, hB⟩ := run_copy (V := V) b h hc hn o.type
  unfold Oper.wp execOp
  simp only [ho, resolve, invoke, builtin, Sem.run_bind, Sem.run_pure, Result.andThen_ok, List.map_toArray, List.map_cons, List.map_nil, hs, hx, hr]
  exact hk A' c' w' hP hB
/-- What stands behind the law's own copy. -/
def Own (w2 : World) (xs ys : List Int) (v9 : Value) (wx : World) : Prop :=
  ∃ (o : Nat) (A1 : Option Addr) (c1 : Nat) (B1 : Option Addr) (d1 : Nat), v9 = .pointer (some ⟨o, 0, none⟩) ∧ w2.heap.size ≤ o ∧ Row wx o 25 #[.slice A1 xs.length c1, .slice B1 ys.length d1] ∧
    Pr wx w2.heap.size A1 c1 xs ∧ Pr wx w2.heap.size B1 d1 ys ∧ Below w2.heap.size w2 wx
theorem Pr.set {w : World} {m : Nat} {A : Option Addr} {c : Nat} {xs : List Int} (h : Pr w m A c xs) {g : Nat} {cs : Array Value} (hO : Row w g 25 cs) (j : Nat) (u : Value) : Pr (w.setCell ⟨g, j, none⟩ u) m A c xs := by
  refine ⟨h.le, ?_, fun hp => Kd.R_set (h.own hp) hO (by decide) j u⟩
  rcases Nat.eq_zero_or_pos xs.length with h0 | h0
  · obtain rfl : xs = [] := List.eq_nil_of_length_eq_zero h0
    exact ⟨rfl, h.rd.2.1, fun hp => absurd hp (Nat.lt_irrefl 0)⟩
  · exact (Kd.R_reads' (Kd.R_set (h.own h0) hO (by decide) j u)).2.2
theorem Own.form1 {w2 w8 : World} {xs ys : List Int} {A7 A8 : Option Addr} {c7 c8 : Nat} (h7 : Pr w8 w2.heap.size A7 c7 xs) (h8 : Pr w8 w2.heap.size A8 c8 ys) (bb : Below w2.heap.size w2 w8) :
    Own w2 xs ys (.pointer (some ⟨w8.heap.size, 0, none⟩)) (w8.alloc (.cells #[.slice A7 xs.length c7, .slice A8 ys.length c8] 25)) :=
  ⟨_, A7, c7, A8, c8, rfl, bb.size, Row.made _ _ _ rfl, h7.below (below_alloc (Below.refl _ _) _), h8.below (below_alloc (Below.refl _ _) _), below_alloc bb _⟩
theorem Own.form2 {w2 w8 : World} {xs ys : List Int} {A7 A8 : Option Addr} {c7 c8 : Nat} (h7 : Pr w8 w2.heap.size A7 c7 xs) (h8 : Pr w8 w2.heap.size A8 c8 ys) (bb : Below w2.heap.size w2 w8) {g : Nat} (hO : Row w8 g 25 #[.slice none 0 0, .slice none 0 0]) (hg : w2.heap.size ≤ g) :
    Own w2 xs ys (.pointer (some ⟨g, 0, none⟩)) ((w8.setCell ⟨g, 0, none⟩ (.slice A7 xs.length c7)).setCell ⟨g, 1, none⟩ (.slice A8 ys.length c8)) := by
  have h1 := hO.put_ 0 (.slice A7 xs.length c7)
  have h2 := h1.put_ 1 (.slice A8 ys.length c8)
  exact ⟨g, A7, c7, A8, c8, rfl, hg, by simpa using h2, (h7.set hO 0 _).set h1 1 _, (h8.set hO 0 _).set h1 1 _, (bb.setCell (p := ⟨g, 0, none⟩) hg _).setCell (p := ⟨g, 1, none⟩) hg _⟩
end Go.Proofs.Ytbelijoggbblgaa.St
