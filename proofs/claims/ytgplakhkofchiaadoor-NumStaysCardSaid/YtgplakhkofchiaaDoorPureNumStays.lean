/- Arguments that are handed in stay as they are, whatever the operation and the arguments: without a condition. -/
import Derived.Test.YtgplakhkofchiaaDoorRNumStaysx4
import Derived.Test.YtgplakhkofchiaaDoorQNumStays
import Derived.OpenShut
set_option linter.unusedVariables false
set_option linter.unusedSimpArgs false
namespace Go.Proofs.YtgplakhkofchiaaDoor.Pure
open Go.RowKit Go.Proofs.YtgplakhkofchiaaDoor.Man Go.Proofs.YtgplakhkofchiaaDoor.RNumStays Go.Proofs.YtgplakhkofchiaaDoorW.PrintWords Go.Proofs.YtgplakhkofchiaaDoorW.PrintLast Go.Proofs.YtgplakhkofchiaaDoor.QNumStays

theorem stays (l : List Int) (hl : l.length ≤ 1000) : ∀ (d k j : Nat), j + d = l.length → d < k → grommetlaw03_NumStays.l0 k l true l (j : Int) = some true := by
  intro d
  induction d with
  | zero =>
    intro k j h hk
    obtain ⟨k, rfl⟩ : ∃ m, k = m + 1 := ⟨k - 1, by omega⟩
    rw [grommetlaw03_NumStays.l0, if_neg (by omega)]
  | succ d ih =>
    intro k j h hk
    obtain ⟨k, rfl⟩ : ∃ m, k = m + 1 := ⟨k - 1, by omega⟩
    rw [grommetlaw03_NumStays.l0, if_pos (by omega), if_pos (by omega), if_pos (by omega), if_pos rfl, w64 _ (by omega) (by omega), show (j : Int) + 1 = ((j + 1 : Nat) : Int) from by omega]
    exact ih k (j + 1) (by omega) (by omega)

theorem NumStays : grommetlaw03_NumStays.Pure := by
  intro op l w0 m0 r0 b0
  have hu : ∀ x ∈ l, 0 ≤ x ∧ x < 18446744073709551616 := fun x hx => by have := bounds_u64 (b0 x hx); omega
  refine ⟨300, ?_⟩
  unfold grommetlaw03_NumStays.f
  rw [up_f 300 (by omega)]
  simp only [Option.bind_some]
  by_cases h1 : (l.length : Int) > 100
  · rw [if_pos h1]
  · rw [if_neg h1]
    rw [if_pos (by simp; omega)]
    rw [List.nil_append]
    obtain ⟨r, hr⟩ := Eval_some op l hu (by omega) 300 (by omega)
    rw [hr]
    simp only [Option.bind_some]
    exact stays l (by omega) l.length 300 0 (by omega) (by omega)

end Go.Proofs.YtgplakhkofchiaaDoor.Pure
