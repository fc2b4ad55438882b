/- Sections and bytes that are handed in, opened. -/
import Derived.Test.YtibeoejnfpbcfaaDoorOp
import Derived.Test.YtibeoejnfpbcfaaDoorSj0
namespace Go.Proofs.YtibeoejnfpbcfaaDoor.Sx
open Go.RowKit Go.WideShapes Go.ChangeShapes Go.Proofs.YtibeoejnfpbcfaaDoorW.PrintWords Go.Proofs.YtibeoejnfpbcfaaDoor.RSectSplits Go.Proofs.YtibeoejnfpbcfaaDoor.Leb
set_option linter.unusedVariables false
set_option linter.unusedSimpArgs false
section
variable {H : Type} {enc : TypeId × Value → H} {W : World} {spare : Nat → Bool} {held : Bool}
theorem open_bytes1 {fuel : Nat} {v : Value} {x : DataW H × List MemPlace} (h : DataW.trod enc Tryd.prog W 0 spare held fuel 22 [v] = some x) (hw : ∀ m ∈ x.1.weights Tryd.prog 22, m ≤ reachBytes) :
    ∃ (A : Option Addr) (c : Nat) (l : List Int), v = .slice A l.length c ∧ (Kd.int .u8).C W A l.length l ∧ l.length ≤ c ∧ Bytes l ∧ l.length * 1 ≤ 140737488351232 := by
  obtain ⟨A, c, l, h1, h2, h3, h4, h5⟩ := Op.open_nums Tryd.underlying22 Tryd.underlying5 (by kernel_rfl) (by kernel_rfl) h hw
  exact ⟨A, c, l, h1, h2, h3, fun a ha => Op.wf_u8 (h4 a ha), h5⟩
set_option maxRecDepth 100000 in
theorem open_sections {fuel : Nat} {v : Value} {x : DataW H × List MemPlace} (h : DataW.trod enc Tryd.prog W 0 spare held fuel 24 [v] = some x) (hw : ∀ m ∈ x.1.weights Tryd.prog 24, m ≤ reachBytes) :
    ∃ (A : Option Addr) (c : Nat) (l : List S34), v = .slice A l.length c ∧ k34.C W A l.length l ∧ l.length ≤ c ∧ (∀ s ∈ l, Bytes s.f2) ∧ l.length * 40 ≤ 140737488351232 := by
  refine Op.open_row k34 z34 (fun s => Bytes s.f2) Tryd.underlying24 (by kernel_rfl) (by kernel_rfl) h hw fun n cs y ht hy hl => ?_
  obtain ⟨xs, k, _, hDe, _, hxl, hf⟩ := DataW.trod_struct Tryd.underlying34 ht
  match cs, hl with
  | [c0, c1, c2], _ =>
    match xs, hxl with
    | [y0, y1, y2], _ =>
      have f0 : DataW.trod enc Tryd.prog W 0 spare held k 3 (List.take (Tryd.prog.cellsOf 3) (List.drop 0 [c0, c1, c2])) = some y0 := hf 0 _ rfl
      have f1 : DataW.trod enc Tryd.prog W 0 spare held k 3 (List.take (Tryd.prog.cellsOf 3) (List.drop 1 [c0, c1, c2])) = some y1 := hf 1 _ rfl
      have f2 : DataW.trod enc Tryd.prog W 0 spare held k 22 (List.take (Tryd.prog.cellsOf 22) (List.drop 2 [c0, c1, c2])) = some y2 := hf 2 _ rfl
      have e3 : Tryd.prog.cellsOf 3 = 1 := by kernel_rfl
      have e22 : Tryd.prog.cellsOf 22 = 1 := by kernel_rfl
      simp only [e3, e22, List.drop_zero, List.drop_succ_cons, List.take_succ_cons, List.take_zero] at f0 f1 f2
      obtain ⟨n0, q0, _, w0⟩ := DataW.trod_int Tryd.underlying3 f0
      obtain ⟨n1, q1, _, w1⟩ := DataW.trod_int Tryd.underlying3 f1
      have hDi : y.1 = .agg [y0.1, y1.1, y2.1] := by rw [hDe]; rfl
      obtain ⟨A, c, l, q2, hC, hle, hB, _⟩ := open_bytes1 f2 (fun m hm => hy m (by rw [hDi]; exact Op.mem_struct (j := 2) Tryd.underlying34 rfl rfl hm))
      injection q0 with q0 _
      injection q1 with q1 _
      subst q0 q1 q2
      exact ⟨⟨n0, n1, l⟩, k34_mk W ⟨n0, n1, l⟩ hle hC, hB⟩
end
end Go.Proofs.YtibeoejnfpbcfaaDoor.Sx
