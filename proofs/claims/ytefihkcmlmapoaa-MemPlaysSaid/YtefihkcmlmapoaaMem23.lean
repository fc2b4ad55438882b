import Derived.Test.YtefihkcmlmapoaaMem22
import Derived.Deep.Slices
import Derived.ChangeShapes
namespace Go.Proofs.Ytefihkcmlmapoaa.Mem
open Go.RowKit Go.WideShapes Go.ChangeShapes
set_option linter.unusedVariables false
set_option linter.unusedSimpArgs false
theorem add_two (a : Addr) (k j : Nat) (hj : j ≠ 0) : (a.add k).add j = ⟨(a.add k).block, (a.add k).off + j, none⟩ := by
  unfold Addr.add
  rw [if_neg hj]
theorem wf_i64 {n : Int} (h : (Lit.int .i64 n).wf = true) : -9223372036854775808 ≤ n ∧ n < 9223372036854775808 := by
  simp [Lit.wf, IntKind.min, IntKind.max, IntKind.signed, IntKind.bits] at h; omega
theorem wf_u64 {n : Int} (h : (Lit.int .u64 n).wf = true) : 0 ≤ n ∧ n < 18446744073709551616 := by
  simp [Lit.wf, IntKind.min, IntKind.max, IntKind.signed, IntKind.bits] at h; omega
theorem wf_u8 {n : Int} (h : (Lit.int .u8 n).wf = true) : 0 ≤ n ∧ n < 256 := by
  simp [Lit.wf, IntKind.min, IntKind.max, IntKind.signed, IntKind.bits] at h; omega
section
variable {H : Type} {enc : TypeId × Value → H} {W : World} {spare : Nat → Bool} {held : Bool}
theorem block_of {a : Addr} {v : Value} (h : W.cell? a = some v) : a.block < W.heap.size := World.block_lt_of_cell? W a h
theorem open_bytes {fuel : Nat} {v : Value} {x : DataW H × List MemPlace} (h : DataW.trod enc Try.prog W 0 spare held fuel 40 [v] = some x) :
    ∃ (B : Option Addr) (nb cb : Nat) (zs : List Int), v = .slice B nb cb ∧ zs.length = nb ∧ (∀ x ∈ zs, 0 ≤ x ∧ x < 256) ∧ SrcOld W W.heap.size B zs := by
  rcases open_ints Try.underlying40 Try.underlying5 (by kernel_rfl) h with ⟨hcs, _⟩ | ⟨a, l, c, zs, hcs, _, hl, hm, hz, _, hcell, hwz⟩
  · injection hcs with hcs _
    exact ⟨none, 0, 0, [], hcs, rfl, (by intro x hx; cases hx), fun h => absurd h (by simp)⟩
  · injection hcs with hcs _
    have hlz : l ≤ zs.length := by rw [hz]; split <;> omega
    refine ⟨some a, l, c, zs.take l, hcs, by simp; omega, fun x hx => wf_u8 (hwz x (List.mem_of_mem_take hx)), fun hp => ⟨a, rfl, ?_, fun j hj => ?_⟩⟩
    · have := hcell 0 (by simp at hp; omega)
      have := block_of this
      rwa [add_block] at this
    · have hj2 : j < l := by simp at hj; omega
      rw [hcell j (by omega)]
      simp [List.getD, hj2]
theorem open_script {fuel : Nat} {v : Value} {x : DataW H × List MemPlace} (h : DataW.trod enc Try.prog W 0 spare held fuel 46 [v] = some x) :
    ∃ (S : Option Addr) (ns cs : Nat), v = .slice S ns cs ∧ ns ≤ cs ∧ cs ≤ maxLen ∧ Script W S ns := by
  rcases Deep.open_slice Try.underlying46 h with ⟨hcs, _⟩ | ⟨a, len, cap, m, n, D, Pl, hcs, _, hl, hm, hmm, _, hx⟩
  · injection hcs with hcs _
    exact ⟨none, 0, 0, hcs, Nat.le_refl _, Nat.zero_le _, fun i hi => absurd hi (Nat.not_lt_zero _)⟩
  · injection hcs with hcs _
    refine ⟨some a, len, cap, hcs, hl, hm, fun i hi => ⟨a, rfl, ?_⟩⟩
    obtain ⟨cs', hc', ht⟩ := hx i (by rw [hmm]; split <;> omega)
    have h5 : Try.prog.cellsOf 49 = 5 := by kernel_rfl
    rw [h5] at hc'
    obtain ⟨_, hlen, hcell⟩ := World.cells?_some hc'
    obtain ⟨xs, k, _, _, _, hxl, hf⟩ := DataW.trod_struct Try.underlying49 ht
    match cs', hlen with
    | [c0, c1, c2, c3, c4], _ =>
      match xs, hxl with
      | [y0, y1, y2, y3, y4], _ =>
        have f0 := hf 0 _ rfl
        have f1 := hf 1 _ rfl
        have f2 := hf 2 _ rfl
        have f3 := hf 3 _ rfl
        have f4 := hf 4 _ rfl
        have e1 : Try.prog.cellsOf 3 = 1 := by kernel_rfl
        have e2 : Try.prog.cellsOf 24 = 1 := by kernel_rfl
        have e3 : Try.prog.cellsOf 40 = 1 := by kernel_rfl
        simp only [e1, e2, e3, List.drop_zero, List.drop_succ_cons, List.take_succ_cons, List.take_zero, List.getElem?_cons_zero, List.getElem?_cons_succ] at f0 f1 f2 f3 f4
        obtain ⟨n0, q0, _, w0⟩ := DataW.trod_int Try.underlying3 f0
        obtain ⟨n1, q1, _, w1⟩ := DataW.trod_int Try.underlying3 f1
        obtain ⟨n2, q2, _, w2⟩ := DataW.trod_int Try.underlying24 f2
        obtain ⟨n3, q3, _, w3⟩ := DataW.trod_int Try.underlying24 f3
        obtain ⟨B, nb, cb, zs, q4, hz, hzr, hs⟩ := open_bytes f4
        injection q0 with q0 _
        injection q1 with q1 _
        injection q2 with q2 _
        injection q3 with q3 _
        subst q0 q1 q2 q3 q4
        have g0 := hcell 0 (by decide)
        have g1 := hcell 1 (by decide)
        have g2 := hcell 2 (by decide)
        have g3 := hcell 3 (by decide)
        have g4 := hcell 4 (by decide)
        rw [add_two _ _ 1 (by decide)] at g1
        rw [add_two _ _ 2 (by decide)] at g2
        rw [add_two _ _ 3 (by decide)] at g3
        rw [add_two _ _ 4 (by decide)] at g4
        rw [show (a.add (i * 5)).add 0 = a.add (i * 5) from rfl] at g0
        exact ⟨n0, n1, n2, n3, B, nb, cb, zs, wf_i64 w0, wf_u64 w2, wf_u64 w3, block_of g0, g0, g1, g2, g3, g4, hz, hzr, hs⟩
end
end Go.Proofs.Ytefihkcmlmapoaa.Mem
