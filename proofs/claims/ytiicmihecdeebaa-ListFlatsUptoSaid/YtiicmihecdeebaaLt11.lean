/- ListFlats: the count, the law's answer; nodes that are handed in, opened: no more of them than the reading's bulk. -/
import Derived.Test.YtiicmihecdeebaaRows
import Derived.Test.YtiicmihecdeebaaLt6
import Derived.Test.YtiicmihecdeebaaRLaw4
import Derived.Test.YtiicmihecdeebaaOp
import Derived.WalkKit
import Derived.ProofKit
import Derived.OpenShut
import Derived.JoinedCond
import Derived.ChangeOld
import Derived.Below
import Derived.SizedLaws
import Derived.Lib.SmallJoins
namespace Go.Proofs.Ytiicmihecdeebaa.Lt
open Go.RowKit Go.WideShapes Go.ChangeShapes Go.Proofs.YtiicmihecdeebaaW.PrintWords Go.Proofs.Ytiicmihecdeebaa.RListFlats Go.Proofs.Ytiicmihecdeebaa.Man
set_option linter.unusedVariables false
set_option linter.unusedSimpArgs false
theorem w_add {a b : Int} (h0 : 0 ≤ a) (h1 : 0 ≤ b) (h2 : a + b ≤ 4000000000) : wrap64 (a + b) = a + b := by unfold wrap64; omega
theorem count_l0 : ∀ (r xs : List S39) (k : Nat) (i n : Int), 0 ≤ i → xs.drop i.toNat = r → i ≤ xs.length → xs.length ≤ 1000000000 → 1 + 3 * cnt r ≤ k → 0 ≤ n → cnt r ≤ 100000000 → n + cnt r ≤ 1000000000 → grommetref10_Count.l0 k xs n i = some (n + (cnt r - r.length : Nat))
  | [], xs, k, i, n, h0, hd, h1, h2, hk, hn, hc1, hc => by
    obtain ⟨k, rfl⟩ : ∃ k', k = k' + 1 := ⟨k - 1, by omega⟩
    have e := drop_nil hd h1 h0
    rw [grommetref10_Count.l0, if_neg (by omega)]
    simp [cnt]
  | ⟨a, b, c, d⟩ :: r, xs, k, i, n, h0, hd, h1, h2, hk, hn, hc1, hc => by
    have hcn : cnt (⟨a, b, c, d⟩ :: r) = 1 + cnt d + cnt r := by rw [cnt]
    obtain ⟨k, rfl⟩ : ∃ k', k = k' + 1 + 1 := ⟨k - 2, by omega⟩
    obtain ⟨q1, q2, q3⟩ := rd_drop hd h0
    have hw := w_next h0 (by omega)
    have hl := cnt_len d
    have hlr := cnt_len r
    rw [grommetref10_Count.l0, if_pos q1, if_pos h0, q2]
    have hf : grommetref10_Count.f (k + 1) d = some (cnt d : Int) := by
      rw [grommetref10_Count.f]
      have := count_l0 d d k 0 d.length (by omega) rfl (by omega) (by omega) (by omega) (by omega) (by omega) (by omega)
      rw [this]
      congr 1
      omega
    simp only
    rw [hf, Option.bind_some, hw, w_add hn (by omega) (by omega)]
    rw [count_l0 r xs (k + 1) (i + 1) (n + cnt d) (by omega) q3 (by omega) h2 (by omega) (by omega) (by omega) (by omega)]
    congr 1
    rw [hcn, List.length_cons]
    omega
  termination_by r => SizeOf.sizeOf r
theorem count_f {ns : List S39} {k : Nat} (hc : cnt ns ≤ 100000000) (hk : 2 + 3 * cnt ns ≤ k) : grommetref10_Count.f k ns = some (cnt ns : Int) := by
  obtain ⟨k, rfl⟩ : ∃ k', k = k' + 1 := ⟨k - 1, by omega⟩
  have hl := cnt_len ns
  rw [grommetref10_Count.f]
  have := count_l0 ns ns k 0 ns.length (by omega) rfl (by omega) (by omega) (by omega) (by omega) (by omega) (by omega)
  rw [this]
  congr 1
  omega
theorem flats_f (l : List S39) (hc : cnt l ≤ 100000000) : grommetlaw10_ListFlats.f (2 + 3 * cnt l) l = some true := by
  unfold grommetlaw10_ListFlats.f
  have hu : grommetlaw10_up.f = some true := rfl
  rw [hu, Option.bind_some, count_f hc (Nat.le_refl _), Option.bind_some]
  split
  · rfl
  · rw [if_pos rfl, flat_f (by omega) (Nat.le_refl _), Option.bind_some, rflat_f (by omega) (Nat.le_refl _), Option.bind_some]
    have := flat_len l
    rw [tsame_f (by omega) (by omega)]
    rfl
theorem one_le {H : Type} (d : DataW H) : 1 ≤ Rows.uptoBulk d := by
  cases d with
  | lit l => cases l <;> simp [Rows.uptoBulk]
  | nil => simp [Rows.uptoBulk]
  | ptr d => simp [Rows.uptoBulk]
  | slice elems spare => simp [Rows.uptoBulk]
  | agg parts => simp [Rows.uptoBulk]
  | iface t d => simp [Rows.uptoBulk]
  | map entries => simp [Rows.uptoBulk]
  | held h => simp [Rows.uptoBulk]
theorem part_le {H : Type} {d : DataW H} {l : List (DataW H)} (h : d ∈ l) : Rows.uptoBulk d ≤ Rows.uptoBulkAll l := by
  induction l with
  | nil => cases h
  | cons x r ih =>
    simp only [Rows.uptoBulkAll]
    cases List.mem_cons.1 h with
    | inl e => subst e; omega
    | inr e => have := ih e; omega
theorem cnt_map {H : Type} (f : Nat → S39) (D : Nat → DataW H) : ∀ is : List Nat, (∀ i ∈ is, cnt [f i] ≤ Rows.uptoBulk (D i)) → cnt (is.map f) ≤ Rows.uptoBulkAll (is.map D)
  | [], _ => by simp [cnt]
  | i :: is, h => by
    have e : (i :: is).map f = [f i] ++ is.map f := rfl
    rw [e, cnt_app]
    have h1 := h i (by simp)
    have h2 := cnt_map f D is (fun j hj => h j (by simp [hj]))
    simp only [List.map_cons, Rows.uptoBulkAll]
    omega
section
variable {H : Type} {enc : TypeId × Value → H} {W : World} {spare : Nat → Bool} {held : Bool}
set_option maxRecDepth 100000 in
theorem open_nodes : ∀ (N fuel : Nat) (v : Value) (x : DataW H × List MemPlace), Rows.uptoBulk x.1 ≤ N → DataW.trod enc Try.prog W 0 spare held fuel 24 [v] = some x →
    ∃ (A : Option Addr) (c : Nat) (l : List S39), v = .slice A l.length c ∧ k39.C W A l.length l ∧ l.length ≤ c ∧ cnt l ≤ Rows.uptoBulk x.1
  | 0, fuel, v, x, hN, h => by have := one_le x.1; omega
  | N + 1, fuel, v, x, hN, h => by
    rcases Deep.open_slice Try.underlying24 h with ⟨hcs, _⟩ | ⟨a, len, cap, m, n, D, Pl, hcs, _, hl, hm, hmm, hX, hx⟩
    · injection hcs with hcs _
      exact ⟨none, 0, [], hcs, Kd.C_nil k39 W, Nat.le_refl _, by simp [cnt]⟩
    · injection hcs with hcs _
      have hx1 : x.1 = .slice ((List.range len).map D) ((List.range (m - len)).map fun j => D (len + j)) := by rw [hX]
      have hbk : Rows.uptoBulkAll ((List.range len).map D) + 1 ≤ Rows.uptoBulk x.1 := by
        rw [hx1]
        simp only [Rows.uptoBulk]
        omega
      have e39 : Try.prog.cellsOf 39 = 4 := by kernel_rfl
      have e3 : Try.prog.cellsOf 3 = 1 := by kernel_rfl
      have e9 : Try.prog.cellsOf 9 = 1 := by kernel_rfl
      have e24 : Try.prog.cellsOf 24 = 1 := by kernel_rfl
      have hE : ∀ i, i < len → ∃ y : S39 × List Value, k39.K W y.1 y.2 ∧ cnt [y.1] ≤ Rows.uptoBulk (D i) ∧ y.2.length = 4 ∧ ∀ j u, y.2[j]? = some u → W.cell? (a.add (i * 4 + j)) = some u := by
        intro i hi
        obtain ⟨cs', hc', htr⟩ := hx i (by rw [hmm]; split <;> omega)
        rw [e39] at hc'
        obtain ⟨_, hlen, hcell⟩ := World.cells?_some hc'
        have hDi : Rows.uptoBulk (D i) ≤ Rows.uptoBulkAll ((List.range len).map D) := part_le (List.mem_map.2 ⟨i, List.mem_range.2 hi, rfl⟩)
        have hcells : ∀ j u, cs'[j]? = some u → W.cell? (a.add (i * 4 + j)) = some u := fun j u hu => by
          have hj : j < 4 := by rw [← hlen]; exact (List.getElem?_eq_some_iff.1 hu).1
          have hc2 := hcell j hj
          rw [add_add] at hc2
          rw [hc2]
          exact hu
        obtain ⟨xs, k, _, hDe, _, hxl, hf⟩ := DataW.trod_struct Try.underlying39 htr
        match cs', hlen, hcells, hf with
        | [c0, c1, c2, c3], _, hcells, hf =>
          match xs, hxl, hDe, hf with
          | [y0, y1, y2, y3], _, hDe, hf =>
            have f0 : DataW.trod enc Try.prog W 0 spare held k 3 (List.take (Try.prog.cellsOf 3) (List.drop 0 [c0, c1, c2, c3])) = some y0 := hf 0 _ rfl
            have f1 : DataW.trod enc Try.prog W 0 spare held k 3 (List.take (Try.prog.cellsOf 3) (List.drop 1 [c0, c1, c2, c3])) = some y1 := hf 1 _ rfl
            have f2 : DataW.trod enc Try.prog W 0 spare held k 9 (List.take (Try.prog.cellsOf 9) (List.drop 2 [c0, c1, c2, c3])) = some y2 := hf 2 _ rfl
            have f3 : DataW.trod enc Try.prog W 0 spare held k 24 (List.take (Try.prog.cellsOf 24) (List.drop 3 [c0, c1, c2, c3])) = some y3 := hf 3 _ rfl
            simp only [e3, e9, e24, List.drop_zero, List.drop_succ_cons, List.take_succ_cons, List.take_zero] at f0 f1 f2 f3
            obtain ⟨n0, q0, _, w0⟩ := DataW.trod_int Try.underlying3 f0
            obtain ⟨n1, q1, _, w1⟩ := DataW.trod_int Try.underlying3 f1
            obtain ⟨s2, q2, _, w2⟩ := DataW.trod_string Try.underlying9 f2
            have hDi2 : D i = .agg [y0.1, y1.1, y2.1, y3.1] := by
              exact congrArg Prod.fst hDe
            have hb3 : Rows.uptoBulk y3.1 + 2 ≤ Rows.uptoBulk (D i) := by
              rw [hDi2]
              have b0 := one_le y0.1
              have b1 := one_le y1.1
              simp only [Rows.uptoBulk, Rows.uptoBulkAll]
              omega
            obtain ⟨A3, c3', l3, q3, hC3, hle3, hcn3⟩ := open_nodes N k c3 y3 (by omega) f3
            injection q0 with q0 _
            injection q1 with q1 _
            injection q2 with q2 _
            subst q0 q1 q2 q3
            exact ⟨(⟨n0, n1, s2, l3⟩, _), k39_mk W ⟨n0, n1, s2, l3⟩ hle3 hC3, by simp only [cnt]; omega, rfl, hcells⟩
      obtain ⟨f, hf⟩ : ∃ f : Nat → S39 × List Value, ∀ i, i < len → k39.K W (f i).1 (f i).2 ∧ cnt [(f i).1] ≤ Rows.uptoBulk (D i) ∧ (f i).2.length = 4 ∧ ∀ j u, (f i).2[j]? = some u → W.cell? (a.add (i * 4 + j)) = some u :=
        ⟨fun i => if hi : i < len then Classical.choose (hE i hi) else (z39, []), fun i hi => by
          simp only [dif_pos hi]; exact Classical.choose_spec (hE i hi)⟩
      refine ⟨some a, cap, (List.range len).map fun i => (f i).1, by simp [hcs], ?_, by simpa using hl, ?_⟩
      · refine ⟨rfl, by simp; unfold maxLen at hm; omega, fun hp => ⟨a, rfl, fun j p hj => ?_⟩⟩
        obtain ⟨hj1, hj2⟩ := List.getElem?_eq_some_iff.1 hj
        have hjl : j < len := by simpa using hj1
        have e1 : p = (f j).1 := by rw [← hj2]; simp
        obtain ⟨k1, _, k2, k3⟩ := hf j hjl
        exact ⟨(f j).2, k2, by rw [e1]; exact k1, k3⟩
      · have := cnt_map (fun i => (f i).1) D (List.range len) (fun i hi => (hf i (List.mem_range.1 hi)).2.1)
        omega
end
end Go.Proofs.Ytiicmihecdeebaa.Lt
