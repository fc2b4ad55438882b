/- slices.Clone of whole numbers, of bytes, by contracts in the printed texts' form. -/
import Derived.Test.YtbelijoggbblgaaSw0
set_option linter.unusedVariables false
namespace Go.Proofs.Ytbelijoggbblgaa.Man
open Go.RowKit Go.Proofs.YtbelijoggbblgaaW.PrintWords Go.Proofs.YtbelijoggbblgaaW.PrintLast Go.Proofs.Ytbelijoggbblgaa.St
def slices_Clone_int_int.f (l0 : List Int) : Option (List Int) := if l0.length * 8 ≤ 140737488351232 then some l0 else none
theorem slices_Clone_int_int.calls (A0 : Option Addr) (c0 : Nat) (l0 : List Int) (r1 : List Int) (w : World) (hr0 : Kd.C (Kd.int .i64) w A0 l0.length l0) (hc0 : l0.length ≤ c0) (h : slices_Clone_int_int.f l0 = some r1) :
    Calls Try.prog 25 #[.slice A0 l0.length c0] w fun e w' => ∃ v0_ : Value, e = .returned v0_ ∧ Kd.R (Kd.int .i64) 3 w' w.heap.size (fun _ => True) v0_ r1 ∧ Below w.heap.size w w' := by
  unfold slices_Clone_int_int.f at h
  split at h
  · rename_i hl
    obtain rfl := Option.some.inj h
    refine (clone_calls hr0 hc0 hl).mono ?_
    rintro e w' ⟨A', c', rfl, hR, hB⟩
    exact ⟨_, rfl, hR, hB⟩
  · cases h
end Go.Proofs.Ytbelijoggbblgaa.Man
