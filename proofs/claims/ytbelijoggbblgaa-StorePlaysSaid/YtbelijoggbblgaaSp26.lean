import Derived.Test.YtbelijoggbblgaaSp0
import Derived.Deep.Slices
import Derived.ChangeShapes
import Derived.SizedLaws
namespace Go.Proofs.Ytbelijoggbblgaa.Sp
open Go.RowKit Go.WideShapes Go.ChangeShapes Go.Proofs.YtbelijoggbblgaaW.PrintWords Go.Proofs.Ytbelijoggbblgaa.St
set_option linter.unusedVariables false
set_option linter.unusedSimpArgs false
/-- One deed of a script, as it lies in memory. -/
structure Deed (W : World) (a : Addr) (what n1 at_ inst fn ans lo hi ty v : Int) (has mu : Bool) (P R : Option Addr) (cp cr : Nat) (ps rs : List Int) : Prop where
  w0 : -9223372036854775808 ≤ what
  w1 : what < 9223372036854775808
  lt : a.block < W.heap.size
  d0 : W.cell? a = some (.int .i64 what)
  d1 : W.cell? ⟨a.block, a.off + 1, none⟩ = some (.int .i64 n1)
  d2 : W.cell? ⟨a.block, a.off + 2, none⟩ = some (.int .i64 at_)
  d3 : W.cell? ⟨a.block, a.off + 3, none⟩ = some (.slice P ps.length cp)
  d4 : W.cell? ⟨a.block, a.off + 4, none⟩ = some (.slice R rs.length cr)
  d5 : W.cell? ⟨a.block, a.off + 5, none⟩ = some (.int .i64 inst)
  d6 : W.cell? ⟨a.block, a.off + 6, none⟩ = some (.int .i64 fn)
  d7 : W.cell? ⟨a.block, a.off + 7, none⟩ = some (.int .u64 ans)
  d8 : W.cell? ⟨a.block, a.off + 8, none⟩ = some (.int .i64 lo)
  d9 : W.cell? ⟨a.block, a.off + 9, none⟩ = some (.int .i64 hi)
  d10 : W.cell? ⟨a.block, a.off + 10, none⟩ = some (.bool has)
  d11 : W.cell? ⟨a.block, a.off + 11, none⟩ = some (.int .i64 ty)
  d12 : W.cell? ⟨a.block, a.off + 12, none⟩ = some (.bool mu)
  d13 : W.cell? ⟨a.block, a.off + 13, none⟩ = some (.int .u64 v)
  cP : I64.C W P ps.length ps
  lP : ps.length ≤ cp
  kP : ps.length * 8 ≤ 140737488351232
  cR : I64.C W R rs.length rs
  lR : rs.length ≤ cr
  kR : rs.length * 8 ≤ 140737488351232
def Script (W : World) (S : Option Addr) (ns : Nat) : Prop :=
  ∀ i, i < ns → ∃ ad, S = some ad ∧ ∃ what n1 at_ inst fn ans lo hi ty v has mu P R cp cr ps rs, Deed W (ad.add (i * 14)) what n1 at_ inst fn ans lo hi ty v has mu P R cp cr ps rs
theorem add_two (a : Addr) (k j : Nat) (hj : j ≠ 0) : (a.add k).add j = ⟨(a.add k).block, (a.add k).off + j, none⟩ := by
  unfold Addr.add
  rw [if_neg hj]
theorem wf_i64 {n : Int} (h : (Lit.int .i64 n).wf = true) : -9223372036854775808 ≤ n ∧ n < 9223372036854775808 := by
  simp [Lit.wf, IntKind.min, IntKind.max, IntKind.signed, IntKind.bits] at h; omega
theorem mem_all {H : Type} {P : Program} {e : TypeId} {d : DataW H} {m : Nat} : ∀ {l : List (DataW H)}, d ∈ l → m ∈ d.weights P e → m ∈ DataW.weightsAll P e l
  | [], h, _ => by cases h
  | d0 :: r, h, hm => by
    unfold DataW.weightsAll
    rcases List.mem_cons.1 h with rfl | h'
    · exact List.mem_append_left _ hm
    · exact List.mem_append_right _ (mem_all h' hm)
theorem mem_struct {H : Type} {P : Program} {t t' : TypeId} {fs : Array Field} {parts : List (DataW H)} {d : DataW H} {j m : Nat} (hu : P.underlying t = some (.struct fs)) (ht : (fs.toList.map (·.type))[j]? = some t') (hd : parts[j]? = some d) (hm : m ∈ d.weights P t') : m ∈ (DataW.agg parts).weights P t := by
  simp only [DataW.weights, hu]
  exact DataW.weights_mem_each ht hd m hm
section
variable {H : Type} {enc : TypeId × Value → H} {W : World} {spare : Nat → Bool} {held : Bool}
theorem block_of {a : Addr} {v : Value} (h : W.cell? a = some v) : a.block < W.heap.size := World.block_lt_of_cell? W a h
/-- A slice of ints that is handed in. -/
theorem open_nums {fuel : Nat} {v : Value} {x : DataW H × List MemPlace} (h : DataW.trod enc Try.prog W 0 spare held fuel 23 [v] = some x) (hw : ∀ m ∈ x.1.weights Try.prog 23, m ≤ reachBytes) :
    ∃ (B : Option Addr) (c : Nat) (zs : List Int), v = .slice B zs.length c ∧ I64.C W B zs.length zs ∧ zs.length ≤ c ∧ zs.length * 8 ≤ 140737488351232 := by
  rcases open_ints Try.underlying23 Try.underlying3 (by kernel_rfl) h with ⟨hcs, _⟩ | ⟨a, l, c, zs, hcs, _, hl, hm, hz, hx, hcell, hwz⟩
  · injection hcs with hcs _
    exact ⟨none, 0, [], hcs, Kd.C_of_reads (enc := Value.int .i64) (d := (0 : Int)) (h1 := fun _ => rfl) ⟨rfl, Nat.zero_le _, fun hp => absurd hp (Nat.lt_irrefl 0)⟩, Nat.le_refl _, by decide⟩
  · injection hcs with hcs _
    have hlz : l ≤ zs.length := by rw [hz]; split <;> omega
    have hlen : (zs.take l).length = l := by simp; omega
    have hb : Try.prog.bytesOf 3 = 8 := by kernel_rfl
    refine ⟨some a, c, zs.take l, by rw [hlen]; exact hcs, ?_, by omega, ?_⟩
    · refine Kd.C_of_reads (enc := Value.int .i64) (d := (0 : Int)) (h1 := fun _ => rfl) ⟨rfl, by rw [hlen]; unfold maxLen at hm; omega, fun _ => ⟨a, rfl, fun j hj => ?_⟩⟩
      have hj2 : j < l := by omega
      rw [hcell j (by omega)]
      simp [List.getD, hj2]
    · have z := hw (((lits (H := H) .i64 (zs.take l)).length + (lits (H := H) .i64 (zs.drop l)).length) * Try.prog.bytesOf 3) (by rw [hx]; simp [DataW.weights, Try.underlying23])
      have h1 : (lits (H := H) .i64 (zs.take l)).length + (lits (H := H) .i64 (zs.drop l)).length = zs.length := by simp [lits]; omega
      rw [h1, hb] at z
      unfold reachBytes at z
      omega
set_option maxRecDepth 100000 in
theorem open_script {fuel : Nat} {v : Value} {x : DataW H × List MemPlace} (h : DataW.trod enc Try.prog W 0 spare held fuel 22 [v] = some x) (hw : ∀ m ∈ x.1.weights Try.prog 22, m ≤ reachBytes) :
    ∃ (S : Option Addr) (ns cs : Nat), v = .slice S ns cs ∧ ns ≤ cs ∧ cs ≤ maxLen ∧ ns * 112 ≤ 140737488351232 ∧ Script W S ns := by
  rcases Deep.open_slice Try.underlying22 h with ⟨hcs, _⟩ | ⟨a, len, cap, m, n, D, Pl, hcs, _, hl, hm, hmm, hX, hx⟩
  · injection hcs with hcs _
    exact ⟨none, 0, 0, hcs, Nat.le_refl _, Nat.zero_le _, by decide, fun i hi => absurd hi (Nat.not_lt_zero _)⟩
  · injection hcs with hcs _
    refine ⟨some a, len, cap, hcs, hl, hm, ?_, fun i hi => ⟨a, rfl, ?_⟩⟩
    · have z := hw (((((List.range len).map D).length + ((List.range (m - len)).map fun j => D (len + j)).length)) * Try.prog.bytesOf 43) (by rw [hX]; simp [DataW.weights, Try.underlying22])
      have hb : Try.prog.bytesOf 43 = 144 := by kernel_rfl
      rw [hb] at z
      simp only [List.length_map, List.length_range] at z
      unfold reachBytes at z
      omega
    have hD : ∀ k ∈ (D i).weights Try.prog 43, k ≤ reachBytes := by
      intro k hk
      refine hw k ?_
      rw [hX]
      simp only [DataW.weights, Try.underlying22]
      refine List.mem_cons_of_mem _ (List.mem_append_left _ (mem_all (List.mem_map.2 ⟨i, List.mem_range.2 hi, rfl⟩) hk))
    obtain ⟨cs', hc', ht⟩ := hx i (by rw [hmm]; split <;> omega)
    have h5 : Try.prog.cellsOf 43 = 14 := by kernel_rfl
    rw [h5] at hc'
    obtain ⟨_, hlen, hcell⟩ := World.cells?_some hc'
    obtain ⟨xs, k, _, hDe, _, hxl, hf⟩ := DataW.trod_struct Try.underlying43 ht
    match cs', hlen with
    | [c0, c1, c2, c3, c4, c5, c6, c7, c8, c9, c10, c11, c12, c13], _ =>
      match xs, hxl with
      | [y0, y1, y2, y3, y4, y5], _ =>
        have f0 : DataW.trod enc Try.prog W 0 spare held k 3 (List.take (Try.prog.cellsOf 3) (List.drop 0 [c0, c1, c2, c3, c4, c5, c6, c7, c8, c9, c10, c11, c12, c13])) = some y0 := hf 0 _ rfl
        have f1 : DataW.trod enc Try.prog W 0 spare held k 3 (List.take (Try.prog.cellsOf 3) (List.drop 1 [c0, c1, c2, c3, c4, c5, c6, c7, c8, c9, c10, c11, c12, c13])) = some y1 := hf 1 _ rfl
        have f2 : DataW.trod enc Try.prog W 0 spare held k 3 (List.take (Try.prog.cellsOf 3) (List.drop 2 [c0, c1, c2, c3, c4, c5, c6, c7, c8, c9, c10, c11, c12, c13])) = some y2 := hf 2 _ rfl
        have f3 : DataW.trod enc Try.prog W 0 spare held k 32 (List.take (Try.prog.cellsOf 32) (List.drop 3 [c0, c1, c2, c3, c4, c5, c6, c7, c8, c9, c10, c11, c12, c13])) = some y3 := hf 3 _ rfl
        have f4 : DataW.trod enc Try.prog W 0 spare held k 38 (List.take (Try.prog.cellsOf 38) (List.drop 8 [c0, c1, c2, c3, c4, c5, c6, c7, c8, c9, c10, c11, c12, c13])) = some y4 := hf 4 _ rfl
        have f5 : DataW.trod enc Try.prog W 0 spare held k 41 (List.take (Try.prog.cellsOf 41) (List.drop 11 [c0, c1, c2, c3, c4, c5, c6, c7, c8, c9, c10, c11, c12, c13])) = some y5 := hf 5 _ rfl
        have e3 : Try.prog.cellsOf 3 = 1 := by kernel_rfl
        have e32 : Try.prog.cellsOf 32 = 5 := by kernel_rfl
        have e38 : Try.prog.cellsOf 38 = 3 := by kernel_rfl
        have e41 : Try.prog.cellsOf 41 = 3 := by kernel_rfl
        have e25 : Try.prog.cellsOf 25 = 2 := by kernel_rfl
        have e23 : Try.prog.cellsOf 23 = 1 := by kernel_rfl
        simp only [e3, e32, e38, e41, List.drop_zero, List.drop_succ_cons, List.take_succ_cons, List.take_zero, List.getElem?_cons_zero, List.getElem?_cons_succ] at f0 f1 f2 f3 f4 f5
        obtain ⟨n0, q0, _, w0⟩ := DataW.trod_int Try.underlying3 f0
        obtain ⟨n1, q1, _, w1⟩ := DataW.trod_int Try.underlying3 f1
        obtain ⟨n2, q2, _, w2⟩ := DataW.trod_int Try.underlying3 f2
        obtain ⟨zs3, k3, _, hD3, _, hl3, hf3⟩ := DataW.trod_struct Try.underlying32 f3
        obtain ⟨zs4, k4, _, hD4, _, hl4, hf4⟩ := DataW.trod_struct Try.underlying38 f4
        obtain ⟨zs5, k5, _, hD5, _, hl5, hf5⟩ := DataW.trod_struct Try.underlying41 f5
        match zs3, hl3 with
        | [a0, a1, a2, a3], _ =>
          match zs4, hl4 with
          | [b0, b1, b2], _ =>
            match zs5, hl5 with
            | [d0, d1, d2], _ =>
              have g0 : DataW.trod enc Try.prog W 0 spare held k3 25 (List.take (Try.prog.cellsOf 25) (List.drop 0 [c3, c4, c5, c6, c7])) = some a0 := hf3 0 _ rfl
              have g1 : DataW.trod enc Try.prog W 0 spare held k3 3 (List.take (Try.prog.cellsOf 3) (List.drop 2 [c3, c4, c5, c6, c7])) = some a1 := hf3 1 _ rfl
              have g2 : DataW.trod enc Try.prog W 0 spare held k3 3 (List.take (Try.prog.cellsOf 3) (List.drop 3 [c3, c4, c5, c6, c7])) = some a2 := hf3 2 _ rfl
              have g3 : DataW.trod enc Try.prog W 0 spare held k3 30 (List.take (Try.prog.cellsOf 30) (List.drop 4 [c3, c4, c5, c6, c7])) = some a3 := hf3 3 _ rfl
              have m0 : DataW.trod enc Try.prog W 0 spare held k4 3 (List.take (Try.prog.cellsOf 3) (List.drop 0 [c8, c9, c10])) = some b0 := hf4 0 _ rfl
              have m1 : DataW.trod enc Try.prog W 0 spare held k4 3 (List.take (Try.prog.cellsOf 3) (List.drop 1 [c8, c9, c10])) = some b1 := hf4 1 _ rfl
              have m2 : DataW.trod enc Try.prog W 0 spare held k4 4 (List.take (Try.prog.cellsOf 4) (List.drop 2 [c8, c9, c10])) = some b2 := hf4 2 _ rfl
              have l0 : DataW.trod enc Try.prog W 0 spare held k5 3 (List.take (Try.prog.cellsOf 3) (List.drop 0 [c11, c12, c13])) = some d0 := hf5 0 _ rfl
              have l1 : DataW.trod enc Try.prog W 0 spare held k5 4 (List.take (Try.prog.cellsOf 4) (List.drop 1 [c11, c12, c13])) = some d1 := hf5 1 _ rfl
              have l2 : DataW.trod enc Try.prog W 0 spare held k5 30 (List.take (Try.prog.cellsOf 30) (List.drop 2 [c11, c12, c13])) = some d2 := hf5 2 _ rfl
              have e4 : Try.prog.cellsOf 4 = 1 := by kernel_rfl
              have e30 : Try.prog.cellsOf 30 = 1 := by kernel_rfl
              simp only [e3, e4, e25, e30, List.drop_zero, List.drop_succ_cons, List.take_succ_cons, List.take_zero] at g0 g1 g2 g3 m0 m1 m2 l0 l1 l2
              obtain ⟨zs6, k6, _, hD6, _, hl6, hf6⟩ := DataW.trod_struct Try.underlying25 g0
              match zs6, hl6 with
              | [u0, u1], _ =>
                have r0 : DataW.trod enc Try.prog W 0 spare held k6 23 (List.take (Try.prog.cellsOf 23) (List.drop 0 [c3, c4])) = some u0 := hf6 0 _ rfl
                have r1 : DataW.trod enc Try.prog W 0 spare held k6 23 (List.take (Try.prog.cellsOf 23) (List.drop 1 [c3, c4])) = some u1 := hf6 1 _ rfl
                simp only [e23, List.drop_zero, List.drop_succ_cons, List.take_succ_cons, List.take_zero] at r0 r1
                have hDi : D i = .agg [y0.1, y1.1, y2.1, y3.1, y4.1, y5.1] := (Prod.mk.inj hDe).1
                have hD3' : y3.1 = .agg [a0.1, a1.1, a2.1, a3.1] := by rw [hD3]; rfl
                have hD6' : a0.1 = .agg [u0.1, u1.1] := by rw [hD6]; rfl
                have up0 : ∀ m ∈ a0.1.weights Try.prog 25, m ≤ reachBytes := fun m hm => hD m (by rw [hDi]; exact mem_struct (j := 3) Try.underlying43 rfl rfl (by rw [hD3']; exact mem_struct (j := 0) Try.underlying32 rfl rfl hm))
                have wu0 : ∀ m ∈ u0.1.weights Try.prog 23, m ≤ reachBytes := fun m hm => up0 m (by rw [hD6']; exact mem_struct (j := 0) Try.underlying25 rfl rfl hm)
                have wu1 : ∀ m ∈ u1.1.weights Try.prog 23, m ≤ reachBytes := fun m hm => up0 m (by rw [hD6']; exact mem_struct (j := 1) Try.underlying25 rfl rfl hm)
                obtain ⟨P, cp, ps, q3, cP, lP, kP⟩ := open_nums r0 wu0
                obtain ⟨R, cr, rs, q4, cR, lR, kR⟩ := open_nums r1 wu1
                obtain ⟨inst, q5, _, _⟩ := DataW.trod_int Try.underlying3 g1
                obtain ⟨fn, q6, _, _⟩ := DataW.trod_int Try.underlying3 g2
                obtain ⟨ans, q7, _, _⟩ := DataW.trod_int Try.underlying30 g3
                obtain ⟨lo, q8, _, _⟩ := DataW.trod_int Try.underlying3 m0
                obtain ⟨hi', q9, _, _⟩ := DataW.trod_int Try.underlying3 m1
                obtain ⟨has, q10, _⟩ := DataW.trod_bool Try.underlying4 m2
                obtain ⟨ty, q11, _, _⟩ := DataW.trod_int Try.underlying3 l0
                obtain ⟨mu, q12, _⟩ := DataW.trod_bool Try.underlying4 l1
                obtain ⟨v', q13, _, _⟩ := DataW.trod_int Try.underlying30 l2
                injection q0 with q0 _
                injection q1 with q1 _
                injection q2 with q2 _
                injection q5 with q5 _
                injection q6 with q6 _
                injection q7 with q7 _
                injection q8 with q8 _
                injection q9 with q9 _
                injection q10 with q10 _
                injection q11 with q11 _
                injection q12 with q12 _
                injection q13 with q13 _
                subst q0 q1 q2 q3 q4 q5 q6 q7 q8 q9 q10 q11 q12 q13
                have x0 := hcell 0 (by decide)
                rw [show (a.add (i * 14)).add 0 = a.add (i * 14) from rfl] at x0
                have xx : ∀ j, j < 14 → j ≠ 0 → W.cell? ⟨(a.add (i * 14)).block, (a.add (i * 14)).off + j, none⟩ = ([_, _, _, _, _, _, _, _, _, _, _, _, _, _] : List Value)[j]? := fun j hj hne => by
                  rw [← add_two _ _ j hne]
                  exact hcell j hj
                exact ⟨n0, n1, n2, inst, fn, ans, lo, hi', ty, v', has, mu, P, R, cp, cr, ps, rs, (wf_i64 w0).1, (wf_i64 w0).2, block_of x0, x0, xx 1 (by decide) (by decide), xx 2 (by decide) (by decide), xx 3 (by decide) (by decide), xx 4 (by decide) (by decide), xx 5 (by decide) (by decide), xx 6 (by decide) (by decide), xx 7 (by decide) (by decide), xx 8 (by decide) (by decide), xx 9 (by decide) (by decide), xx 10 (by decide) (by decide), xx 11 (by decide) (by decide), xx 12 (by decide) (by decide), xx 13 (by decide) (by decide), cP, lP, kP, cR, lR, kR⟩
end
end Go.Proofs.Ytbelijoggbblgaa.Sp
