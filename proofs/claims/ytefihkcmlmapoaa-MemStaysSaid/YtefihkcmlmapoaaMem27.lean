import Derived.Test.YtefihkcmlmapoaaMem26
import Derived.ChangeSlices
import Derived.OpenShut
namespace Go.Proofs.Ytefihkcmlmapoaa.Mem
open Go.RowKit Go.WideShapes Go.ChangeShapes
set_option linter.unusedVariables false
theorem stays (w : World) (lo hi : Int) (has : Bool) (at_ : Int) (a0 : 0 ≤ at_) (a1 : at_ < 18446744073709551616) (B : Option Addr) (nb cb : Nat) (zs : List Int) (hz : zs.length = nb) (hzr : ∀ x ∈ zs, 0 ≤ x ∧ x < 256) (hsrc : Src w B zs) (hold : ∀ ad, B = some ad → 0 < nb → ad.block < w.heap.size) (hv : B = none → nb = 0 ∧ cb = 0) :
    Calls Try.prog 7 #[.agg #[.int .i64 lo, .int .i64 hi, .bool has], .int .u64 at_, .slice B nb cb] w fun e w' => e = .returned (.bool true) ∧ Below w.heap.size w w' := by
  by_cases h : may lo hi has
  · by_cases hnb : nb ≤ 5000
    · exact stays_yes w lo hi has at_ a0 a1 B nb cb zs hz hzr hsrc hold hnb hv h
    · exact stays_long w lo hi has at_ B nb cb h (by omega)
  · exact stays_no w lo hi has at_ B nb cb h
theorem wf_u8' {n : Int} (h : (Lit.int .u8 n).wf = true) : 0 ≤ n ∧ n < 256 := by
  simp [Lit.wf, IntKind.min, IntKind.max, IntKind.signed, IntKind.bits] at h; omega
theorem open_src {H : Type} {enc : TypeId × Value → H} {W : World} {spare : Nat → Bool} {held : Bool} {fuel : Nat} {v : Value} {x : DataW H × List MemPlace} (h : DataW.trod enc Try.prog W 0 spare held fuel 40 [v] = some x) :
    ∃ (B : Option Addr) (nb cb : Nat) (zs : List Int), v = .slice B nb cb ∧ zs.length = nb ∧ (∀ x ∈ zs, 0 ≤ x ∧ x < 256) ∧ Src W B zs ∧ (∀ ad, B = some ad → 0 < nb → ad.block < W.heap.size) ∧ (B = none → nb = 0 ∧ cb = 0) := by
  rcases open_ints Try.underlying40 Try.underlying5 (by kernel_rfl) h with ⟨hcs, _⟩ | ⟨a, l, c, zs, hcs, _, hl, hm, hz, _, hcell, hwz⟩
  · injection hcs with hcs _
    exact ⟨none, 0, 0, [], hcs, rfl, (by intro x hx; cases hx), fun h => absurd h (by simp), (fun ad e => by cases e), fun _ => ⟨rfl, rfl⟩⟩
  · injection hcs with hcs _
    have hlz : l ≤ zs.length := by rw [hz]; split <;> omega
    refine ⟨some a, l, c, zs.take l, hcs, by simp; omega, fun x hx => wf_u8' (hwz x (List.mem_of_mem_take hx)), fun hp => ⟨a, rfl, fun j u hj => ?_⟩, fun ad e hp => ?_, fun e => by cases e⟩
    · have hj2 : j < l := by
        have := (List.getElem?_eq_some_iff.1 hj).1
        simp at this
        omega
      rw [hcell j (by omega), ← hj]
      simp [List.getD, hj2, show j < zs.length by omega]
    · injection e with e
      subst e
      have := World.block_lt_of_cell? W _ (hcell 0 (by omega))
      rwa [add_blk] at this
end Go.Proofs.Ytefihkcmlmapoaa.Mem
