import Derived.Test.YtbelijoggbblgaaSt2
namespace Go.Proofs.Ytbelijoggbblgaa.St
open Go.RowKit Go.Proofs.YtbelijoggbblgaaW.PrintWords Go.Proofs.YtbelijoggbblgaaW.PrintLast Go.Proofs.YtbelijoggbblgaaW.PrintMore Go.Proofs.Ytbelijoggbblgaa.PStorePlays
set_option linter.unusedVariables false
set_option linter.unusedSimpArgs false
set_option maxHeartbeats 1000000 in
theorem up_calls (w : World) : Calls Try.prog 6 #[] w fun e w' => e = .returned (.bool true) ∧ Below w.heap.size w w' := by
  have a1 : ∀ w1 : World, Row w1 w.heap.size 90 #[.slice none 0 0, .slice none 0 0, .slice none 0 0, .slice none 0 0, .slice none 0 0] → Below w.heap.size w w1 → w1.heap.size = w.heap.size + 1 →
      Calls Try.prog 11 #[.pointer (some ⟨w.heap.size, 0, none⟩), .agg #[.int .i64 1, .bool false, .int .u64 0]] w1 fun e w' => e = .returned (.int .i64 0) ∧ (∃ AG' cG', St w' (w.heap.size + 1) w.heap.size (.slice none 0 0) (.slice none 0 0) (.slice none 0 0) (.slice AG' (([⟨1, false, 0⟩] : List S41)).length cG') (.slice none 0 0) [] [] [⟨1, false, 0⟩]) ∧ w.heap.size + 1 ≤ w'.heap.size ∧ Below w.heap.size w w' := by
    intro w1 h1 h2 h3
    have hS0 := St.new (base := w.heap.size + 1) (Nat.lt_succ_self _) h1
    refine (addGlobal_calls (w := w1) (base := w.heap.size + 1) (G := []) (AG := none) (cG := 0) hS0 (by omega) (by decide) 1 false 0).mono ?_
    rintro e w' ⟨he, ⟨AG, cG, hS, hO⟩⟩
    refine ⟨he, ⟨AG, cG, hS⟩, by have := hO.size; omega, hO.below h2 (by omega) (fun i hi => ?_)⟩
    rcases hi with rfl | hi
    · exact Nat.le_refl _
    · cases hi
  have a2 : ∀ (w2 : World) (AG : Option Addr) (cG : Nat), St w2 (w.heap.size + 1) w.heap.size (.slice none 0 0) (.slice none 0 0) (.slice none 0 0) (.slice AG (([⟨1, false, 0⟩] : List S41)).length cG) (.slice none 0 0) [] [] [⟨1, false, 0⟩] → w.heap.size + 1 ≤ w2.heap.size → Below w.heap.size w w2 →
      Calls Try.prog 11 #[.pointer (some ⟨w.heap.size, 0, none⟩), .agg #[.int .i64 2, .bool false, .int .u64 0]] w2 fun e w' => e = .returned (.int .i64 1) ∧ Below w.heap.size w w' := by
    intro w2 AG cG hS h2 h3
    refine (addGlobal_calls hS h2 (by decide) 2 false 0).mono ?_
    rintro e w' ⟨he, ⟨_, _, _, hO⟩⟩
    refine ⟨he, hO.below h3 (by omega) (fun i hi => ?_)⟩
    rcases hi with rfl | hi
    · exact Nat.le_refl _
    · exact Nat.le_of_lt ((Kd.R_base hS.g) i (by rw [ownBlock_slice]; exact hi))
  have A1 := Aside0.mk a1
  have A2 := Aside0.mk a2
  clear a1 a2
  go_enter Try.func6, Try.ntmps6
  go_wp2_with (first
    | (go_at_call 7; (refine (new_calls _).mono ?_); rintro e w1 ⟨rfl, h1, h2, h3⟩; have H1 := Aside0.mk (And.intro h1 (And.intro h2 h3)); clear h1 h2 h3)
    | (go_at_call 11; (with_reducible refine (A1.out _ H1.out.1 H1.out.2.1 H1.out.2.2).mono ?_); rintro e w2 ⟨rfl, ⟨AG, cG, hS⟩, h4, h5⟩; have H2 := Aside0.mk (And.intro hS (And.intro h4 h5)); clear hS h4 h5)
    | (go_at_call 11; (with_reducible refine (A2.out _ _ _ H2.out.1 H2.out.2.1 H2.out.2.2).mono ?_); rintro e w3 ⟨rfl, h6⟩))
  go_ret
  exact ⟨rfl, h6⟩
end Go.Proofs.Ytbelijoggbblgaa.St
