/- Bytes that are handed in, opened. -/
import Derived.Test.YtibeoejnfpbcfaaDoorSx1
import Derived.OpenShut
import Derived.ChangeShapes
import Derived.SizedLaws
namespace Go.Proofs.YtibeoejnfpbcfaaDoor.Sx
open Go.Proofs.YtibeoejnfpbcfaaDoor.Leb Go.RowKit Go.WideShapes Go.ChangeShapes Go.Proofs.YtibeoejnfpbcfaaDoorW.PrintWords
theorem wf_u8 {n : Int} (h : (Lit.int .u8 n).wf = true) : 0 ≤ n ∧ n < 256 := by
  simp [Lit.wf, IntKind.min, IntKind.max, IntKind.signed, IntKind.bits] at h; omega
theorem wf_i64 {n : Int} (h : (Lit.int .i64 n).wf = true) : -9223372036854775808 ≤ n ∧ n < 9223372036854775808 := by
  simp [Lit.wf, IntKind.min, IntKind.max, IntKind.signed, IntKind.bits] at h; omega
section
variable {H : Type} {enc : TypeId × Value → H} {W : World} {spare : Nat → Bool} {held : Bool}
theorem open_bytes {a : Option Addr} {len cap : Nat} {d : DataW H} {p : List MemPlace} (h : DataW.Trod enc Tryd.prog W 0 spare held 22 (.slice a len cap) d p) :
    ∃ l : List Int, l.length = len ∧ (Kd.int .u8).C W a len l ∧ len ≤ cap ∧ Bytes l := by
  obtain ⟨fuel, hf⟩ := h
  rcases open_ints Tryd.underlying22 Tryd.underlying5 (by kernel_rfl) hf with ⟨hcs, _⟩ | ⟨x, l, c, zs, hcs, _, hl, hm, hz, _, hcell, hwz⟩
  · simp [Value.cells] at hcs
    obtain ⟨rfl, rfl, rfl⟩ := hcs
    exact ⟨[], rfl, Kd.C_of_reads (enc := Value.int .u8) (d := (0 : Int)) (h1 := fun _ => rfl) ⟨rfl, Nat.zero_le _, fun hp => absurd hp (Nat.lt_irrefl 0)⟩, Nat.le_refl _, fun x hx => by cases hx⟩
  · simp [Value.cells] at hcs
    obtain ⟨rfl, rfl, rfl⟩ := hcs
    have hlz : len ≤ zs.length := by rw [hz]; split <;> omega
    have hlen : (zs.take len).length = len := by simp; omega
    refine ⟨zs.take len, hlen, ?_, hl, fun x hx => wf_u8 (hwz x (List.mem_of_mem_take hx))⟩
    refine Kd.C_of_reads (enc := Value.int .u8) (d := (0 : Int)) (h1 := fun _ => rfl) ⟨hlen, by unfold maxLen at hm; omega, fun _ => ⟨x, rfl, fun j hj => ?_⟩⟩
    rw [hcell j (by omega)]
    simp [List.getD, hj]
end
end Go.Proofs.YtibeoejnfpbcfaaDoor.Sx
