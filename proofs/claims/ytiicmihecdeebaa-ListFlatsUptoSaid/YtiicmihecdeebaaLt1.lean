/- The open lists in memory: a row of cells (kind, place, text, slice), each slice a row of its own, told apart by tags. -/
import Derived.Test.YtiicmihecdeebaaLt0
set_option linter.unusedVariables false
set_option linter.unusedSimpArgs false
namespace Go.Proofs.Ytiicmihecdeebaa.Lt
open Go.RowKit Go.Proofs.YtiicmihecdeebaaW.PrintWords Go.Proofs.YtiicmihecdeebaaW.PrintLast Go.Proofs.YtiicmihecdeebaaW.PrintMore Go.Proofs.Ytiicmihecdeebaa.RListFlats
def ksl : Kd (Option Addr × Nat × Nat) := Kd.scalar (fun t => .slice t.1 t.2.1 t.2.2) (fun _ => rfl)
structure Cf where
  k : Int
  a : Int
  s : ByteArray
  l : Option Addr × Nat × Nat
def Cf.v (c : Cf) : Value := .slice c.l.1 c.l.2.1 c.l.2.2
def kF : Kd Cf := Kd.iso (Kd.pair (Kd.int .i64) (Kd.pair (Kd.int .i64) (Kd.pair Kd.string ksl))) (fun x => (x.k, x.a, x.s, x.l))
theorem kF_open {w : World} {x : Cf} {cs : List Value} (h : kF.K w x cs) : cs = [.int .i64 x.k, .int .i64 x.a, .string x.s, x.v] := by
  obtain ⟨_, _, rfl, rfl, ⟨_, _, rfl, rfl, ⟨_, _, rfl, rfl, rfl⟩⟩⟩ := h
  rfl
theorem kF_mkM (w : World) (base : Nat) (ok : Nat → Prop) (x : Cf) : kF.M w base ok x [.int .i64 x.k, .int .i64 x.a, .string x.s, x.v] :=
  ⟨[.int .i64 x.k], [.int .i64 x.a, .string x.s, x.v], rfl, rfl, ⟨[.int .i64 x.a], [.string x.s, x.v], rfl, rfl, ⟨[.string x.s], [x.v], rfl, rfl, rfl⟩⟩⟩
/-- The stack in memory, the outermost list first. -/
structure Mem (w : World) (base : Nat) (tag : Nat → Nat) (vO : Value) (cs : List Cf) (xss : List (List S39)) : Prop where
  row : kF.R 39 w base (fun k => tag k = 0) vO cs
  len : cs.length = xss.length
  each : ∀ (j : Nat) (c : Cf) (xs : List S39), cs[j]? = some c → xss[j]? = some xs → c.s = ⟨#[]⟩ ∧ k39.R 39 w base (fun k => tag k = j + 1) c.v xs
theorem Mem.retag {w : World} {base : Nat} {tag tag' : Nat → Nat} {vO : Value} {cs : List Cf} {xss : List (List S39)} (h : Mem w base tag vO cs xss) (ht : ∀ k, k < w.heap.size → tag k ≤ cs.length → tag' k = tag k) : Mem w base tag' vO cs xss :=
  ⟨Kd.R_mono (Kd.R_bound h.row) (fun k hk => (ht k hk.2.2.1 (by omega)).trans hk.1), h.len, fun j c xs hc hx => ⟨(h.each j c xs hc hx).1, Kd.R_mono (Kd.R_bound (h.each j c xs hc hx).2) (fun k hk => (ht k hk.2.2.1 (by have := (List.getElem?_eq_some_iff.1 hc).1; omega)).trans hk.1)⟩⟩
theorem Mem.step {w w1 : World} {base : Nat} {tag : Nat → Nat} {vO : Value} {cs : List Cf} {xss : List (List S39)} (h : Mem w base tag vO cs xss) (hm : ∀ k, k < w.heap.size → w1.heap[k]? = w.heap[k]?) : Mem w1 base tag vO cs xss :=
  ⟨Kd.R_step h.row (fun k _ hk => hm k hk), h.len, fun j c xs hc hx => ⟨(h.each j c xs hc hx).1, Kd.R_step (h.each j c xs hc hx).2 (fun k _ hk => hm k hk)⟩⟩
/-- A frame's list has grown (its row at w1), and the frame's cell tells the new slice. -/
theorem Mem.grow {w w1 : World} {base : Nat} {tag : Nat → Nat} {g n cap : Nat} {cs : List Cf} {xss : List (List S39)} (h : Mem w base tag (.slice (some ⟨g, 0, none⟩) n cap) cs xss) {j : Nat} {c : Cf} {xs ys : List S39} (hc : cs[j]? = some c) (hx : xss[j]? = some xs)
    {l : Option Addr × Nat × Nat} (hr : k39.R 39 w1 base (fun k => tag k = j + 1) (.slice l.1 l.2.1 l.2.2) ys) (hg : w.grownBy w1 c.v.ownBlock) :
    Mem (w1.setCell ⟨g, j * 4 + 3, none⟩ (.slice l.1 l.2.1 l.2.2)) base tag (.slice (some ⟨g, 0, none⟩) n cap) (cs.set j ⟨c.k, c.a, c.s, l⟩) (xss.set j ys) := by
  obtain ⟨hs, hrj⟩ := h.each j c xs hc hx
  have hown : ∀ k, c.v.ownBlock = some k → tag k = j + 1 := hrj.1
  have hjl : j < cs.length := (List.getElem?_eq_some_iff.1 hc).1
  have hn : n = cs.length := (Kd.R_reads' h.row).1
  have hrow1 : kF.R 39 w1 base (fun k => tag k = 0) (.slice (some ⟨g, 0, none⟩) n cap) cs := Kd.R_grown h.row hg (fun k hk e => by have := hown k e.symm; omega)
  have htg : tag g = 0 := h.row.1 g (by simp [Value.ownBlock])
  obtain ⟨cc, hcl, hM, hcells, hfz⟩ := Kd.R_elem hrow1 (⟨0, 0, ⟨#[]⟩, (none, 0, 0)⟩ : Cf) (j : Int) (by omega) (by omega)
  rw [Int.toNat_natCast, List.getD_eq_getElem?_getD, hc] at hM
  have hcc := kF_open (kF.K_of_M hM)
  simp only [Option.getD_some] at hcc
  have hsg := (Kd.R_seg (okp := fun k => tag k = 0 ∧ k ≠ g) (x' := (⟨c.k, c.a, c.s, l⟩ : Cf)) (seg := [.slice l.1 l.2.1 l.2.2]) (j := 3) hrow1 (j : Int) (by omega) (by omega) hcl hcells (Nat.le_refl 4) (by rw [hcc]; exact kF_mkM _ _ _ _) (fun k hk => hk)).1
  rw [Int.toNat_natCast] at hsg
  have hw2 : w1.setCells g (j * kF.sz + 3) [.slice l.1 l.2.1 l.2.2] = w1.setCell ⟨g, j * 4 + 3, none⟩ (.slice l.1 l.2.1 l.2.2) := rfl
  rw [hw2] at hsg
  refine ⟨hsg, by rw [List.length_set, List.length_set]; exact h.len, fun i c' xs' hc' hx' => ?_⟩
  by_cases hij : i = j
  · subst hij
    rw [List.getElem?_set_self hjl] at hc'
    rw [List.getElem?_set_self (by rw [← h.len]; exact hjl)] at hx'
    injection hc' with hc'
    injection hx' with hx'
    subst hc' hx'
    exact ⟨hs, Kd.R_far hr (p := ⟨g, i * 4 + 3, none⟩) (fun k hk e => by rw [e, htg] at hk; omega) _⟩
  · rw [List.getElem?_set_ne (fun e => hij e.symm)] at hc' hx'
    obtain ⟨q1, q2⟩ := h.each i c' xs' hc' hx'
    exact ⟨q1, Kd.R_far (Kd.R_grown q2 hg (fun k hk e => by have := hown k e.symm; omega)) (p := ⟨g, j * 4 + 3, none⟩) (fun k hk e => by rw [e, htg] at hk; omega) _⟩
/-- One more frame behind all: its row at w1. -/
theorem Mem.push {w w1 : World} {base : Nat} {tag : Nat → Nat} {vO v1 : Value} {cs : List Cf} {xss : List (List S39)} (h : Mem w base tag vO cs xss) {c : Cf} (hs : c.s = ⟨#[]⟩) (hl : c.l = (none, 0, 0))
    (hr : kF.R 39 w1 base (fun k => tag k = 0) v1 (cs ++ [c])) (hg : w.grownBy w1 vO.ownBlock) : Mem w1 base tag v1 (cs ++ [c]) (xss ++ [[]]) := by
  refine ⟨hr, by rw [List.length_append, List.length_append, h.len]; rfl, fun j c' xs' hc' hx' => ?_⟩
  rcases Nat.lt_trichotomy j cs.length with hj | hj | hj
  · rw [List.getElem?_append_left hj] at hc'
    rw [List.getElem?_append_left (by rw [← h.len]; exact hj)] at hx'
    obtain ⟨q1, q2⟩ := h.each j c' xs' hc' hx'
    exact ⟨q1, Kd.R_grown q2 hg (fun k hk e => by have := h.row.1 k e.symm; omega)⟩
  · subst hj
    rw [List.getElem?_append_right (Nat.le_refl _), Nat.sub_self] at hc'
    rw [h.len, List.getElem?_append_right (Nat.le_refl _), Nat.sub_self] at hx'
    injection hc' with hc'
    injection hx' with hx'
    subst hc' hx'
    refine ⟨hs, ?_⟩
    unfold Cf.v
    rw [hl]
    exact Kd.R_nil _ _ _ _ _
  · rw [List.getElem?_eq_none (by simp; omega)] at hc'
    cases hc'
/-- The innermost frame is taken off; what it held is left, by its own tag. -/
theorem Mem.pop {w : World} {base : Nat} {tag : Nat → Nat} {g n cap : Nat} {cs : List Cf} {c : Cf} {xss : List (List S39)} {xs : List S39} (h : Mem w base tag (.slice (some ⟨g, 0, none⟩) n cap) (cs ++ [c]) (xss ++ [xs])) :
    Mem w base tag (.slice (some ⟨g, 0, none⟩) cs.length cap) cs xss ∧ c.s = ⟨#[]⟩ ∧ k39.R 39 w base (fun k => tag k = cs.length + 1) c.v xs := by
  have hlen : cs.length = xss.length := by have := h.len; simp only [List.length_append, List.length_cons, List.length_nil] at this; omega
  have hn : n = cs.length + 1 := by have := (Kd.R_reads' h.row).1; simpa using this
  obtain ⟨q1, q2⟩ := h.each cs.length c xs (by rw [List.getElem?_append_right (Nat.le_refl _), Nat.sub_self]; rfl) (by rw [hlen, List.getElem?_append_right (Nat.le_refl _), Nat.sub_self]; rfl)
  refine ⟨⟨?_, hlen, fun j c' xs' hc' hx' => ?_⟩, q1, q2⟩
  · have k := Kd.R_take h.row (m := cs.length) (by simp)
    rw [List.take_left'] at k
    · exact k
    · rfl
  · have hj := (List.getElem?_eq_some_iff.1 hc').1
    exact h.each j c' xs' (by rw [List.getElem?_append_left hj]; exact hc') (by rw [List.getElem?_append_left (by rw [← hlen]; exact hj)]; exact hx')
end Go.Proofs.Ytiicmihecdeebaa.Lt
