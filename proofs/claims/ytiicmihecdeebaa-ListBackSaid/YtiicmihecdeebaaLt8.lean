/- Tokens that are handed in, opened. -/
import Derived.Test.YtiicmihecdeebaaOp
import Derived.Test.YtiicmihecdeebaaLt1
namespace Go.Proofs.Ytiicmihecdeebaa.Lt
open Go.RowKit Go.WideShapes Go.ChangeShapes Go.Proofs.YtiicmihecdeebaaW.PrintWords Go.Proofs.Ytiicmihecdeebaa.RListFlats
set_option linter.unusedVariables false
set_option linter.unusedSimpArgs false
section
variable {H : Type} {enc : TypeId × Value → H} {W : World} {spare : Nat → Bool} {held : Bool}
set_option maxRecDepth 100000 in
theorem open_toks {fuel : Nat} {v : Value} {x : DataW H × List MemPlace} (h : DataW.trod enc Try.prog W 0 spare held fuel 22 [v] = some x) (hw : ∀ m ∈ x.1.weights Try.prog 22, m ≤ reachBytes) :
    ∃ (A : Option Addr) (c : Nat) (l : List S36), v = .slice A l.length c ∧ k36.C W A l.length l ∧ l.length ≤ c ∧ (∀ s ∈ l, True) ∧ l.length * 32 ≤ 140737488351232 := by
  refine Op.open_row k36 z36 (fun s => True) Try.underlying22 (by kernel_rfl) (by kernel_rfl) h hw fun n cs y ht hy hl => ?_
  obtain ⟨xs, k, _, hDe, _, hxl, hf⟩ := DataW.trod_struct Try.underlying36 ht
  match cs, hl with
  | [c0, c1, c2], _ =>
    match xs, hxl with
    | [y0, y1, y2], _ =>
      have f0 : DataW.trod enc Try.prog W 0 spare held k 3 (List.take (Try.prog.cellsOf 3) (List.drop 0 [c0, c1, c2])) = some y0 := hf 0 _ rfl
      have f1 : DataW.trod enc Try.prog W 0 spare held k 3 (List.take (Try.prog.cellsOf 3) (List.drop 1 [c0, c1, c2])) = some y1 := hf 1 _ rfl
      have f2 : DataW.trod enc Try.prog W 0 spare held k 9 (List.take (Try.prog.cellsOf 9) (List.drop 2 [c0, c1, c2])) = some y2 := hf 2 _ rfl
      have e3 : Try.prog.cellsOf 3 = 1 := by kernel_rfl
      have e9 : Try.prog.cellsOf 9 = 1 := by kernel_rfl
      simp only [e3, e9, List.drop_zero, List.drop_succ_cons, List.take_succ_cons, List.take_zero] at f0 f1 f2
      obtain ⟨n0, q0, _, w0⟩ := DataW.trod_int Try.underlying3 f0
      obtain ⟨n1, q1, _, w1⟩ := DataW.trod_int Try.underlying3 f1
      obtain ⟨s2, q2, _, w2⟩ := DataW.trod_string Try.underlying9 f2
      injection q0 with q0 _
      injection q1 with q1 _
      injection q2 with q2 _
      subst q0 q1 q2
      exact ⟨⟨n0, n1, s2⟩, k36_mk W ⟨n0, n1, s2⟩, trivial⟩
end
end Go.Proofs.Ytiicmihecdeebaa.Lt
