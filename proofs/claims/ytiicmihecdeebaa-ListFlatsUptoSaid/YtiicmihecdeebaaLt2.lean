/- The innermost frame's cells. -/
import Derived.Test.YtiicmihecdeebaaLt1
import Derived.Deep.RegionLaw
set_option linter.unusedVariables false
set_option linter.unusedSimpArgs false
namespace Go.Proofs.Ytiicmihecdeebaa.Lt
open Go.RowKit Go.Proofs.YtiicmihecdeebaaW.PrintWords Go.Proofs.YtiicmihecdeebaaW.PrintLast Go.Proofs.YtiicmihecdeebaaW.PrintMore Go.Proofs.Ytiicmihecdeebaa.RListFlats
/-- The stack in plain words: the innermost list first. -/
def stk (cs : List Cf) (xss : List (List S39)) : List Fr := ((cs.zip xss).map (fun p => ⟨p.1.k, p.1.a, p.2⟩)).reverse
theorem stk_snoc {cs : List Cf} {xss : List (List S39)} (h : cs.length = xss.length) (c : Cf) (xs : List S39) : stk (cs ++ [c]) (xss ++ [xs]) = ⟨c.k, c.a, xs⟩ :: stk cs xss := by
  unfold stk
  rw [List.zip_append h]
  simp
theorem stk_len {cs : List Cf} {xss : List (List S39)} (h : cs.length = xss.length) : (stk cs xss).length = cs.length := by
  unfold stk
  simp [h]
/-- A list that is not empty has a last one. -/
theorem snoc_of {α : Type} {xs : List α} {n : Nat} (h : xs.length = n + 1) : ∃ ys y, xs = ys ++ [y] ∧ ys.length = n := by
  refine ⟨xs.dropLast, xs.getLast (by intro e; rw [e] at h; cases h), (List.dropLast_concat_getLast _).symm, by rw [List.length_dropLast, h]; rfl⟩
/-- The innermost frame, opened. -/
theorem Mem.last {w : World} {base : Nat} {tag : Nat → Nat} {g n cap : Nat} {cs : List Cf} {c : Cf} {xss : List (List S39)} {xs : List S39} (h : Mem w base tag (.slice (some ⟨g, 0, none⟩) n cap) (cs ++ [c]) (xss ++ [xs])) :
    n = cs.length + 1 ∧ cs.length = xss.length ∧ ∃ A3 c3, c = ⟨c.k, c.a, ⟨#[]⟩, (A3, xs.length, c3)⟩ ∧ k39.R 39 w base (fun k => tag k = cs.length + 1) (.slice A3 xs.length c3) xs
      ∧ w.cell? ⟨g, cs.length * 4, none⟩ = some (.int .i64 c.k) ∧ w.cell? ⟨g, cs.length * 4 + 1, none⟩ = some (.int .i64 c.a) ∧ w.cell? ⟨g, cs.length * 4 + 2, none⟩ = some (.string ⟨#[]⟩) ∧ w.cell? ⟨g, cs.length * 4 + 3, none⟩ = some (.slice A3 xs.length c3)
      ∧ w.frozen? ⟨g, cs.length * 4 + 3, none⟩ = false ∧ base ≤ g ∧ g < w.heap.size ∧ n ≤ cap := by
  have hlen : cs.length = xss.length := by have := h.len; simp only [List.length_append, List.length_cons, List.length_nil] at this; omega
  have hn : n = cs.length + 1 := by have := (Kd.R_reads' h.row).1; simpa using this
  obtain ⟨q0, q1, q2⟩ := h.pop
  obtain ⟨ck, ca, cst, A3, m3, c3⟩ := c
  simp only at q1
  subst q1
  have hm : m3 = xs.length := (Kd.R_reads' q2).1
  subst hm
  obtain ⟨cc, hcl, hM, hcells, hfz⟩ := Kd.R_elem h.row (⟨0, 0, ⟨#[]⟩, (none, 0, 0)⟩ : Cf) (cs.length : Int) (by omega) (by omega)
  rw [Int.toNat_natCast, List.getD_eq_getElem?_getD, List.getElem?_append_right (Nat.le_refl _), Nat.sub_self] at hM
  have hcc := kF_open (kF.K_of_M hM)
  simp only [List.getElem?_cons_zero, Option.getD_some] at hcc
  subst hcc
  simp only [Int.toNat_natCast] at hcells hfz
  exact ⟨hn, hlen, A3, c3, rfl, q2, hcells 0 _ rfl, hcells 1 _ rfl, hcells 2 _ rfl, hcells 3 _ rfl, hfz 3, Kd.R_base h.row g (by simp [Value.ownBlock]), Kd.R_lt h.row g (by simp [Value.ownBlock]), (Kd.R_reads' h.row).2.1⟩
theorem set_snoc {α : Type} (xs : List α) (y z : α) : (xs ++ [y]).set xs.length z = xs ++ [z] := by
  induction xs with
  | nil => rfl
  | cons a r ih => exact congrArg (a :: ·) ih
theorem get_snoc {α : Type} (xs : List α) (y : α) : (xs ++ [y])[xs.length]? = some y := by
  rw [List.getElem?_append_right (Nat.le_refl _), Nat.sub_self]
  rfl
/-- One row has grown, then another step into that row's block. -/
theorem grown_trans {w w3 w4 : World} {own : Option Nat} {g5 : Nat} (h : w.grownBy w3 own) (h4 : w3.grownBy w4 (some g5)) (hat : some g5 = own ∨ ∃ b, some g5 = some b ∧ w.heap.size ≤ b) : w.grownBy w4 own :=
  ⟨h4.os.trans h.os, h4.tape.trans h.tape, h4.output.trans h.output, Nat.le_trans h.size h4.size, fun k hk hne => by
    refine (h4.block k (Nat.lt_of_lt_of_le hk h.size) ?_).trans (h.block k hk hne)
    intro e
    rcases hat with ha | ⟨b, hb, hle⟩
    · exact hne (e.trans ha)
    · injection hb with hb
      injection e with e
      omega⟩
/-- The innermost frame's list is another, its slice the same; its block alone has turned. -/
theorem Mem.put {w w1 : World} {base : Nat} {tag : Nat → Nat} {vO : Value} {cs : List Cf} {c : Cf} {xss : List (List S39)} {xs ys : List S39} (h : Mem w base tag vO (cs ++ [c]) (xss ++ [xs])) (hl : cs.length = xss.length)
    {g5 : Nat} (hr : k39.R 39 w1 base (fun k => tag k = cs.length + 1) c.v ys) (hg : w.grownBy w1 (some g5)) (ht : tag g5 = cs.length + 1) : Mem w1 base tag vO (cs ++ [c]) (xss ++ [ys]) := by
  refine ⟨Kd.R_grown h.row hg (fun k hk e => by injection e with e; rw [e] at hk; omega), by simp [hl], fun i c' xs' hc' hx' => ?_⟩
  by_cases hij : i = cs.length
  · subst hij
    rw [get_snoc] at hc'
    rw [hl, get_snoc] at hx'
    injection hc' with hc'
    injection hx' with hx'
    subst hc' hx'
    exact ⟨(h.each cs.length c xs (get_snoc _ _) (by rw [hl]; exact get_snoc _ _)).1, hr⟩
  · have hlt : i < cs.length := by have := (List.getElem?_eq_some_iff.1 hc').1; simp at this; omega
    rw [List.getElem?_append_left (by omega)] at hx'
    obtain ⟨q1, q2⟩ := h.each i c' xs' hc' (by rw [List.getElem?_append_left (by omega)]; exact hx')
    exact ⟨q1, Kd.R_grown q2 hg (fun k hk e => by injection e with e; rw [e] at hk; omega)⟩
/-- A list whose last one is another: its cells, and a store into them. -/
theorem last_z {w : World} {base : Nat} {ok : Nat → Prop} {g5 n cap5 : Nat} {xs : List S39} {z : S39} (h : k39.R 39 w base ok (.slice (some ⟨g5, 0, none⟩) n cap5) (xs ++ [z])) :
    n = xs.length + 1 ∧ ok g5 ∧ base ≤ g5 ∧ g5 < w.heap.size
    ∧ (∃ v, w.cell? ⟨g5, xs.length * 4, none⟩ = some (.int .i64 z.f0) ∧ w.cell? ⟨g5, xs.length * 4 + 1, none⟩ = some (.int .i64 z.f1) ∧ w.cell? ⟨g5, xs.length * 4 + 2, none⟩ = some (.string z.f2) ∧ w.cell? ⟨g5, xs.length * 4 + 3, none⟩ = some v)
    ∧ (w.frozen? ⟨g5, xs.length * 4, none⟩ = false ∧ w.frozen? ⟨g5, xs.length * 4 + 1, none⟩ = false ∧ w.frozen? ⟨g5, xs.length * 4 + 2, none⟩ = false ∧ w.frozen? ⟨g5, xs.length * 4 + 3, none⟩ = false)
    ∧ ∀ (x : S39) (v3 : Value) (okp : Nat → Prop), k39.R 39 w base okp v3 x.f3 → (∀ k, okp k → ok k ∧ k ≠ g5) →
      k39.R 39 (w.setCells g5 (xs.length * 4) [.int .i64 x.f0, .int .i64 x.f1, .string x.f2, v3]) base ok (.slice (some ⟨g5, 0, none⟩) n cap5) (xs ++ [x]) ∧ w.grownBy (w.setCells g5 (xs.length * 4) [.int .i64 x.f0, .int .i64 x.f1, .string x.f2, v3]) (some g5) := by
  have hn : n = xs.length + 1 := by have := (Kd.R_reads' h).1; simpa using this
  obtain ⟨cc, hcl, hM, hcells, hfz⟩ := Kd.R_elem h z39 (xs.length : Int) (by omega) (by omega)
  rw [Int.toNat_natCast, List.getD_eq_getElem?_getD, get_snoc] at hM
  simp only [Option.getD_some] at hM
  obtain ⟨v3, hcc, _⟩ := k39_openM hM
  refine ⟨hn, h.1 g5 (by simp [Value.ownBlock]), Kd.R_base h g5 (by simp [Value.ownBlock]), Kd.R_lt h g5 (by simp [Value.ownBlock]), ?_, ?_, fun x u okp hx hok => ?_⟩
  · subst hcc
    simp only [Int.toNat_natCast] at hcells
    exact ⟨v3, hcells 0 _ rfl, hcells 1 _ rfl, hcells 2 _ rfl, hcells 3 _ rfl⟩
  · simp only [Int.toNat_natCast] at hfz
    exact ⟨hfz 0, hfz 1, hfz 2, hfz 3⟩
  · have hs := Kd.R_seg (okp := okp) (x' := x) (seg := [.int .i64 x.f0, .int .i64 x.f1, .string x.f2, u]) (j := 0) h (xs.length : Int) (by omega) (by omega) hcl hcells (Nat.le_refl 4) (by
      have e : List.take 0 cc ++ [.int .i64 x.f0, .int .i64 x.f1, .string x.f2, u] ++ List.drop (0 + 4) cc = [.int .i64 x.f0, .int .i64 x.f1, .string x.f2, u] := by
        rw [List.drop_eq_nil_of_le (by rw [hcl]; exact Nat.le_refl 4)]; rfl
      exact (congrArg (k39.M w base okp x) e).mpr (k39_mkM _ _ _ _ hx)) hok
    rw [Int.toNat_natCast, set_snoc] at hs
    exact hs
section
variable {w w3 : World} {base : Nat} {tag : Nat → Nat} {g n cap g5 cap5 : Nat} {cs : List Cf} {c0 : Cf} {xss : List (List S39)} {xs : List S39} {A3 : Option Addr} {c3 : Nat}
/-- The innermost list has grown by x, its new slice is stored. -/
theorem Mem.app0 (h : Mem w base tag (.slice (some ⟨g, 0, none⟩) n cap) (cs ++ [c0]) (xss ++ [xs])) (hl : cs.length = xss.length) (hv : c0.v = .slice A3 xs.length c3) {x : S39} {l : Option Addr × Nat × Nat}
    (hr : k39.R 39 w3 base (fun k => tag k = cs.length + 1) (.slice l.1 l.2.1 l.2.2) (xs ++ [x])) (hg : w.grownBy w3 (Value.slice A3 xs.length c3).ownBlock) :
    Mem (w3.setCell ⟨g, cs.length * 4 + 3, none⟩ (.slice l.1 l.2.1 l.2.2)) base tag (.slice (some ⟨g, 0, none⟩) n cap) (cs ++ [⟨c0.k, c0.a, c0.s, l⟩]) (xss ++ [xs ++ [x]]) := by
  have k := h.grow (c := c0) (get_snoc cs c0) (by rw [hl]; exact get_snoc xss xs) hr (by rw [hv]; exact hg)
  rw [set_snoc, hl, set_snoc, ← hl] at k
  exact k
/-- A zero is appended, x stored there, then the slice. -/
theorem Mem.app1 (h : Mem w base tag (.slice (some ⟨g, 0, none⟩) n cap) (cs ++ [c0]) (xss ++ [xs])) (hl : cs.length = xss.length) (hv : c0.v = .slice A3 xs.length c3) {z : S39}
    (hr : k39.R 39 w3 base (fun k => tag k = cs.length + 1) (.slice (some ⟨g5, 0, none⟩) (xs.length + 1) cap5) (xs ++ [z])) (hg : w.grownBy w3 (Value.slice A3 xs.length c3).ownBlock)
    (hat : (Value.slice (some ⟨g5, 0, none⟩) (xs.length + 1) cap5).ownBlock = (Value.slice A3 xs.length c3).ownBlock ∨ ∃ b, (Value.slice (some ⟨g5, 0, none⟩) (xs.length + 1) cap5).ownBlock = some b ∧ w.heap.size ≤ b)
    {x : S39} {v5 : Value} {okp : Nat → Prop} (hx : k39.R 39 w3 base okp v5 x.f3) (hok : ∀ k, okp k → tag k = cs.length + 1 ∧ k ≠ g5) :
    Mem ((w3.setCells g5 (xs.length * 4) [.int .i64 x.f0, .int .i64 x.f1, .string x.f2, v5]).setCell ⟨g, cs.length * 4 + 3, none⟩ (.slice (some ⟨g5, 0, none⟩) (xs.length + 1) cap5)) base tag (.slice (some ⟨g, 0, none⟩) n cap) (cs ++ [⟨c0.k, c0.a, c0.s, (some ⟨g5, 0, none⟩, xs.length + 1, cap5)⟩]) (xss ++ [xs ++ [x]]) := by
  obtain ⟨hr4, hg4⟩ := (last_z hr).2.2.2.2.2.2 x v5 okp hx hok
  exact h.app0 hl hv (l := (some ⟨g5, 0, none⟩, xs.length + 1, cap5)) hr4 (grown_trans hg hg4 hat)
/-- A zero is appended, the slice stored, then x. -/
theorem Mem.app2 (h : Mem w base tag (.slice (some ⟨g, 0, none⟩) n cap) (cs ++ [c0]) (xss ++ [xs])) (hl : cs.length = xss.length) (hv : c0.v = .slice A3 xs.length c3) {z : S39}
    (hr : k39.R 39 w3 base (fun k => tag k = cs.length + 1) (.slice (some ⟨g5, 0, none⟩) (xs.length + 1) cap5) (xs ++ [z])) (hg : w.grownBy w3 (Value.slice A3 xs.length c3).ownBlock)
    {x : S39} {v5 : Value} {okp : Nat → Prop} (hx : k39.R 39 w3 base okp v5 x.f3) (hok : ∀ k, okp k → tag k = cs.length + 1 ∧ k ≠ g5) :
    Mem ((w3.setCell ⟨g, cs.length * 4 + 3, none⟩ (.slice (some ⟨g5, 0, none⟩) (xs.length + 1) cap5)).setCells g5 (xs.length * 4) [.int .i64 x.f0, .int .i64 x.f1, .string x.f2, v5]) base tag (.slice (some ⟨g, 0, none⟩) n cap) (cs ++ [⟨c0.k, c0.a, c0.s, (some ⟨g5, 0, none⟩, xs.length + 1, cap5)⟩]) (xss ++ [xs ++ [x]]) := by
  have htg : tag g = 0 := h.row.1 g (by simp [Value.ownBlock])
  have k := h.app0 hl hv (l := (some ⟨g5, 0, none⟩, xs.length + 1, cap5)) hr hg
  have hq := (k.each cs.length _ _ (get_snoc _ _) (by rw [hl]; exact get_snoc _ _)).2
  obtain ⟨hr4, hg4⟩ := (last_z hq).2.2.2.2.2.2 x v5 okp (Kd.R_far hx (fun k hk e => by have := (hok k hk).1; rw [e, htg] at this; omega) _) hok
  exact k.put hl hr4 hg4 (hr.1 g5 (by simp [Value.ownBlock]))
end
theorem below_cells {B : Nat} {W w : World} (h : Below B W w) {g5 : Nat} (hg : B ≤ g5) : ∀ (seg : List Value) (o : Nat), Below B W (w.setCells g5 o seg) := by
  intro seg
  induction seg generalizing w with
  | nil => intro o; exact h
  | cons v r ih => intro o; exact ih (h.setCell (p := ⟨g5, o, none⟩) hg v) (o + 1)
end Go.Proofs.Ytiicmihecdeebaa.Lt
