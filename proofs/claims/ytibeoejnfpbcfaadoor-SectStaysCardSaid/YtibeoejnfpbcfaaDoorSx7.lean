/- law00.Told of a Spot, by its contract; split's error codes. -/
import Derived.Test.YtibeoejnfpbcfaaDoorMan
import Derived.Test.YtibeoejnfpbcfaaDoorSx6
namespace Go.Proofs.YtibeoejnfpbcfaaDoor.Sx
open Go.RowKit Go.Proofs.YtibeoejnfpbcfaaDoorW.PrintWords Go.Proofs.YtibeoejnfpbcfaaDoorW.PrintLast Go.Proofs.YtibeoejnfpbcfaaDoorW.PrintMore Go.Proofs.YtibeoejnfpbcfaaDoor.RSectSplits Go.Proofs.YtibeoejnfpbcfaaDoor.Leb Go.Proofs.YtibeoejnfpbcfaaDoor.Man
set_option linter.unusedVariables false
set_option linter.unusedSimpArgs false
theorem told_calls (p at_ : Nat) (b : Int) (w : World) (hG : GL w) (h0 : w.cell? ⟨p, 0, none⟩ = some (.int .i64 (at_ : Int))) (h1 : w.cell? ⟨p, 1, none⟩ = some (.iface 41 (.int .i64 b))) (hb : -9223372036854775808 ≤ b ∧ b < 9223372036854775808) :
    Calls Tryd.prog 11 #[.iface 46 (.pointer (some ⟨p, 0, none⟩)), .int .i64 b, .int .i64 (at_ : Int)] w fun e w' => e = .returned (.bool true) ∧ Below w.heap.size w w' := by
  have LI := Aside0.mk (Err.law_is p (at_ : Int) b w hG h0 h1)
  have n0 : decide ((at_ : Int) < 0) = false := decide_eq_false (by omega)
  have ew : wrap64 b = b := by unfold wrap64; omega
  have ew' : IntKind.i64.wrap b = b := by rw [IntKind.wrap_i64]; omega
  clear hG h0 h1 hb
  go_enter Tryd.func11, Tryd.ntmps11
  go_wp2_with (go_at_call 16; (with_reducible refine LI.out.mono ?_); rintro e w7 ⟨rfl, h7⟩; have H7 := Aside0.mk h7; clear h7)
  go_ret
  exact ⟨rfl, H7.out⟩
theorem spl_err : ∀ (f : Nat) (l : List Int) (at_ : Nat) (last : Int) (out : List S34) (b : Int) (a : Nat), spl f l at_ last out = .error (b, a) → b = 2 ∨ b = 7
  | 0, l, at_, last, out, b, a, h => by rw [spl] at h; cases h
  | f + 1, l, at_, last, out, b, a, h => by
    rw [spl] at h
    split at h
    · cases h
    · split at h
      · injection h with h; injection h with h _; exact Or.inl h.symm
      · split at h
        · injection h with h; injection h with h _; exact Or.inr h.symm
        · split at h
          · injection h with h; injection h with h _; exact Or.inl h.symm
          · split at h
            · injection h with h; injection h with h _; exact Or.inl h.symm
            · exact spl_err f _ _ _ _ b a h
theorem split_err {l : List Int} {b : Int} {a : Nat} (h : split l = .error (b, a)) : b = 2 ∨ b = 7 := by
  unfold split at h
  split at h
  · exact spl_err _ _ _ _ _ b a h
  · injection h with h; injection h with h _; exact Or.inl h.symm
end Go.Proofs.YtibeoejnfpbcfaaDoor.Sx
