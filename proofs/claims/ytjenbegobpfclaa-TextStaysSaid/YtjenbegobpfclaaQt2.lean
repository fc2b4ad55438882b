/- TextQuotes: the walk. -/
import Derived.Test.YtjenbegobpfclaaQt1
import Derived.OpenShut
import Derived.ChangeShapes
import Derived.SizedLaws
set_option linter.unusedVariables false
set_option linter.unusedSimpArgs false
namespace Go.Proofs.Ytjenbegobpfclaa.Tx
open Go.RowKit Go.WideShapes Go.ChangeShapes Go.Proofs.Ytjenbegobpfclaa.Man Go.Proofs.YtjenbegobpfclaaW.PrintWords Go.Proofs.YtjenbegobpfclaaW.PrintLast Go.Proofs.YtjenbegobpfclaaW.PrintMore Go.Proofs.Ytjenbegobpfclaa.RTextAll
def Byts (l : List Int) : Prop := ∀ x ∈ l, 0 ≤ x ∧ x < 256
theorem wf_u8 {n : Int} (h : (Lit.int .u8 n).wf = true) : 0 ≤ n ∧ n < 256 := by
  simp [Lit.wf, IntKind.min, IntKind.max, IntKind.signed, IntKind.bits] at h; omega
section
variable {H : Type} {enc : TypeId × Value → H} {W : World} {spare : Nat → Bool} {held : Bool}
theorem open_bytes {a : Option Addr} {len cap : Nat} {d : DataW H} {p : List MemPlace} (h : DataW.Trod enc Try.prog W 0 spare held 34 (.slice a len cap) d p) :
    ∃ l : List Int, l.length = len ∧ (Kd.int .u8).C W a len l ∧ len ≤ cap ∧ Byts l := by
  obtain ⟨fuel, hf⟩ := h
  rcases open_ints Try.underlying34 Try.underlying5 (by kernel_rfl) hf with ⟨hcs, _⟩ | ⟨x, l, c, zs, hcs, _, hl, hm, hz, _, hcell, hwz⟩
  · simp [Value.cells] at hcs
    obtain ⟨rfl, rfl, rfl⟩ := hcs
    exact ⟨[], rfl, Kd.C_of_reads (enc := Value.int .u8) (d := (0 : Int)) (h1 := fun _ => rfl) ⟨rfl, Nat.zero_le _, fun hp => absurd hp (Nat.lt_irrefl 0)⟩, Nat.le_refl _, fun x hx => by cases hx⟩
  · simp [Value.cells] at hcs
    obtain ⟨rfl, rfl, rfl⟩ := hcs
    have hlz : len ≤ zs.length := by rw [hz]; split <;> omega
    have hlen : (zs.take len).length = len := by simp; omega
    refine ⟨zs.take len, hlen, ?_, hl, fun x hx => wf_u8 (hwz x (List.mem_of_mem_take hx))⟩
    refine Kd.C_of_reads (enc := Value.int .u8) (d := (0 : Int)) (h1 := fun _ => rfl) ⟨hlen, by unfold maxLen at hm; omega, fun _ => ⟨x, rfl, fun j hj => ?_⟩⟩
    rw [hcell j (by omega)]
    simp [List.getD, hj]
end
set_option maxHeartbeats 4000000 in
theorem quotes (W : World) (A : Option Addr) (c : Nat) (l : List Int) (hC : Kd.C (Kd.int .u8) W A l.length l) (hc : l.length ≤ c) (hl : Byts l) :
    Calls Try.prog 5 #[.slice A l.length c] W fun e w' => e = .returned (.bool true) ∧ Below W.heap.size W w' := by
  have CU := Aside0.mk (fun W5 : World => up_calls W5)
  by_cases hs : l.length ≤ 1000
  · have l1 : decide (((l.length : Nat) : Int) > 1000) = false := decide_eq_false (by omega)
    have l1' : (1000 < l.length) = False := eq_false (by omega)
    have CQ := Aside0.mk (fun (W5 : World) (h5 : Below W.heap.size W W5) => quote_calls W5 A c l (Kd.C_below hC h5) hc hl (by omega))
    have CR := Aside0.mk (fun (W5 : World) (h5 : Below W.heap.size W W5) => rquote_calls W5 A c l (Kd.C_below hC h5) hc hl (by omega))
    clear hs hC hl hc
    go_enter Try.func5, Try.ntmps5
    go_upto_region 2 with (go_at_call 8; (refine (CU.out _).mono ?_); rintro e1 w1 ⟨rfl, hB1⟩; have HB1 := Aside0.mk hB1; clear hB1)
    go_wp2_with (first
      | (go_at_call 12; (refine (CQ.out _ HB1.out).mono ?_); rintro e2 w2 ⟨rfl, hB2⟩; have HB2 := Aside0.mk (HB1.out.trans (hB2.mono HB1.out.size)); clear hB2)
      | (go_at_call 13; (refine (CR.out _ HB2.out).mono ?_); rintro e3 w3 ⟨rfl, hB3⟩; have HB3 := Aside0.mk (HB2.out.trans (hB3.mono HB2.out.size)); clear hB3))
    go_ret
    exact ⟨by simp, HB3.out⟩
  · have l1 : decide (((l.length : Nat) : Int) > 1000) = true := decide_eq_true (by omega)
    have l1' : (1000 < l.length) = True := eq_true (by omega)
    clear hs hC hl hc
    go_enter Try.func5, Try.ntmps5
    go_wp2_with (go_at_call 8; (refine (CU.out _).mono ?_); rintro e1 w1 ⟨rfl, hB1⟩; have HB1 := Aside0.mk hB1; clear hB1)
    go_ret
    exact ⟨rfl, HB1.out⟩
end Go.Proofs.Ytjenbegobpfclaa.Tx
