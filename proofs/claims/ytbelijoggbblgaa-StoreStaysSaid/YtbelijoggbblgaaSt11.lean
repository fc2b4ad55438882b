import Derived.Test.YtbelijoggbblgaaSt8
namespace Go.Proofs.Ytbelijoggbblgaa.St
open Go.RowKit Go.Proofs.YtbelijoggbblgaaW.PrintWords Go.Proofs.YtbelijoggbblgaaW.PrintLast Go.Proofs.YtbelijoggbblgaaW.PrintMore Go.Proofs.Ytbelijoggbblgaa.PStorePlays
set_option linter.unusedVariables false
set_option linter.unusedSimpArgs false
set_option maxRecDepth 100000 in
theorem stays_out (W : World) (S : Option Addr) (ns cs : Nat) (A : Option Addr) (lx c : Nat) (B : Option Addr) (ly d : Nat) (n : Int) (h : 300 < lx ∨ 300 < ly) :
    Calls Try.prog 3 #[.slice S ns cs, .agg #[.slice A lx c, .slice B ly d], .int .i64 n] W fun e w' => e = .returned (.bool true) ∧ Below W.heap.size W w' := by
  go_enter Try.func3, Try.ntmps3
  by_cases h1 : 300 < lx
  · have g1 : decide ((300 : Int) < (lx : Int)) = true := decide_eq_true (by omega)
    have g1' : ((300 : Int) < (lx : Int)) = True := eq_true (by omega)
    go_wp2_with (go_at_call 6; (refine (up_calls _).mono ?_); rintro e w1 ⟨rfl, hB1⟩; have r1 : Row w1 W.heap.size 25 #[.slice A lx c, .slice B ly d] := (Row.made W 25 _ rfl).below hB1 (by simp); have q0 := r1.cell 0; have q1 := r1.cell 1; simp only [List.getElem?_toArray, List.getElem?_cons_zero, List.getElem?_cons_succ] at q0 q1)
    go_ret
    exact ⟨rfl, (below_alloc (Below.refl _ _) _).trans (below_mono hB1 (by simp))⟩
  · have g1 : decide ((300 : Int) < (lx : Int)) = false := decide_eq_false (by omega)
    have g2 : decide ((300 : Int) < (ly : Int)) = true := decide_eq_true (by omega)
    have g1' : ((300 : Int) < (lx : Int)) = False := eq_false (by omega)
    have g2' : ((300 : Int) < (ly : Int)) = True := eq_true (by omega)
    go_wp2_with (go_at_call 6; (refine (up_calls _).mono ?_); rintro e w1 ⟨rfl, hB1⟩; have r1 : Row w1 W.heap.size 25 #[.slice A lx c, .slice B ly d] := (Row.made W 25 _ rfl).below hB1 (by simp); have q0 := r1.cell 0; have q1 := r1.cell 1; simp only [List.getElem?_toArray, List.getElem?_cons_zero, List.getElem?_cons_succ] at q0 q1)
    go_ret
    exact ⟨rfl, (below_alloc (Below.refl _ _) _).trans (below_mono hB1 (by simp))⟩
end Go.Proofs.Ytbelijoggbblgaa.St
