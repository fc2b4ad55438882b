/- What is known of memory while the program copies a module: bounds; the copy so far; one element more. -/
import Derived.Test.YtbelijoggbblgaaEx4
namespace Go.Proofs.Ytbelijoggbblgaa.Ex
open Go.RowKit Go.Proofs.YtbelijoggbblgaaW.PrintWords Go.Proofs.YtbelijoggbblgaaW.PrintLast Go.Proofs.Ytbelijoggbblgaa.RStoreExports Go.Proofs.Ytbelijoggbblgaa.Man
set_option linter.unusedVariables false
set_option linter.unusedSimpArgs false
/-- A machine's memory holds the lists of m; its instructions are nested at most n deep. -/
structure Bm (n : Nat) (m : S61) : Prop where
  h0 : m.f0.length * 48 ≤ 140737488351232
  t0 : ∀ x ∈ m.f0, x.f0.length * 8 ≤ 140737488351232 ∧ x.f1.length * 8 ≤ 140737488351232
  h1 : m.f1.length * 80 ≤ 140737488351232
  h2 : m.f2.length * 56 ≤ 140737488351232
  t2 : ∀ x ∈ m.f2, x.f1.length * 8 ≤ 140737488351232 ∧ Bd n x.f2
  h3 : m.f3.length * 24 ≤ 140737488351232
  h4 : m.f4.length * 24 ≤ 140737488351232
  h5 : m.f5.length * 136 ≤ 140737488351232
  t5 : ∀ x ∈ m.f5, Bd n [x.f2]
  h6 : m.f6.length * 32 ≤ 140737488351232
  h8 : m.f8.length * 144 ≤ 140737488351232
  t8 : ∀ x ∈ m.f8, Bd n [x.f0] ∧ x.f1.length * 8 ≤ 140737488351232
  h9 : m.f9.length * 144 ≤ 140737488351232
  t9 : ∀ x ∈ m.f9, Bd n [x.f0] ∧ x.f1.length * 1 ≤ 140737488351232
  h10 : m.f10.length * 40 ≤ 140737488351232
  t10 : ∀ x ∈ m.f10, x.f1.length * 1 ≤ 140737488351232
abbrev Z61 : Array Value := #[.slice none 0 0, .slice none 0 0, .slice none 0 0, .slice none 0 0, .slice none 0 0, .slice none 0 0, .slice none 0 0, .int .i64 0, .slice none 0 0, .slice none 0 0, .slice none 0 0]
/-- The copy so far, x, in the block g; the box of the argument, the result's cells, as they were. -/
structure Mv (w wc : World) (g : Nat) (cs : Array Value) (x : S61) (v0 v1 v2 v3 v4 v5 v6 v8 v9 v10 : Value) : Prop where
  box : Row wc w.heap.size 61 cs
  res : Row wc (w.heap.size + 1) 61 Z61
  lo : w.heap.size + 2 ≤ g
  low : Below w.heap.size w wc
  row : Row wc g 61 #[v0, v1, v2, v3, v4, v5, v6, .int .i64 x.f7, v8, v9, v10]
  r0 : Kd.R k25 25 wc w.heap.size (fun _ => True) v0 x.f0
  r1 : Kd.R k118 118 wc w.heap.size (fun _ => True) v1 x.f1
  r2 : Kd.R k101 101 wc w.heap.size (fun _ => True) v2 x.f2
  r3 : Kd.R k38 38 wc w.heap.size (fun _ => True) v3 x.f3
  r4 : Kd.R k38 38 wc w.heap.size (fun _ => True) v4 x.f4
  r5 : Kd.R k106 106 wc w.heap.size (fun _ => True) v5 x.f5
  r6 : Kd.R k74 74 wc w.heap.size (fun _ => True) v6 x.f6
  r8 : Kd.R k108 108 wc w.heap.size (fun _ => True) v8 x.f8
  r9 : Kd.R k111 111 wc w.heap.size (fun _ => True) v9 x.f9
  r10 : Kd.R k121 121 wc w.heap.size (fun _ => True) v10 x.f10
section
variable {w wc w' : World} {g : Nat} {cs : Array Value} {x : S61} {v0 v1 v2 v3 v4 v5 v6 v8 v9 v10 : Value}
theorem Mv.step (h : Mv w wc g cs x v0 v1 v2 v3 v4 v5 v6 v8 v9 v10) (hb : Below wc.heap.size wc w') : Mv w w' g cs x v0 v1 v2 v3 v4 v5 v6 v8 v9 v10 :=
  ⟨h.box.below hb h.box.lt, h.res.below hb h.res.lt, h.lo, h.low.trans (St.below_mono hb h.low.size), h.row.below hb h.row.lt, Kd.R_below h.r0 hb, Kd.R_below h.r1 hb, Kd.R_below h.r2 hb, Kd.R_below h.r3 hb, Kd.R_below h.r4 hb, Kd.R_below h.r5 hb, Kd.R_below h.r6 hb, Kd.R_below h.r8 hb, Kd.R_below h.r9 hb, Kd.R_below h.r10 hb⟩
theorem Mv.drew (h : Mv w wc g cs x v0 v1 v2 v3 v4 v5 v6 v8 v9 v10) : Mv w wc.drew g cs x v0 v1 v2 v3 v4 v5 v6 v8 v9 v10 := h.step (Below.refl _ wc).drew
theorem Mv.app0 (h : Mv w wc g cs x v0 v1 v2 v3 v4 v5 v6 v8 v9 v10) {u : Value} {ys : List _} (hR : Kd.R k25 25 w' w.heap.size (fun _ => True) u ys) (hg : wc.grownBy w' v0.ownBlock) :
    Mv w (w'.setCell ⟨g, 0, none⟩ u) g cs { x with f0 := ys } u v1 v2 v3 v4 v5 v6 v8 v9 v10 := by
  have hrow : Row w' g 61 #[v0, v1, v2, v3, v4, v5, v6, .int .i64 x.f7, v8, v9, v10] := h.row.grown hg (fun e => Kd.R_ne h.r0 h.row (by decide) e.symm)
  have hbox : Row w' w.heap.size 61 cs := h.box.grown hg (fun e => Kd.R_ne h.r0 h.box (by decide) e.symm)
  have hres : Row w' (w.heap.size + 1) 61 Z61 := h.res.grown hg (fun e => Kd.R_ne h.r0 h.res (by decide) e.symm)
  have hlo := h.lo
  have hlow : Below w.heap.size w w' := h.low.grown hg h.low.size (own_base (Kd.R_own h.r0).choose_spec)
  refine ⟨hbox.off (by show w.heap.size ≠ g; omega) u, hres.off (by show w.heap.size + 1 ≠ g; omega) u, h.lo, hlow.setCell (p := ⟨g, 0, none⟩) (by show w.heap.size ≤ g; omega) u, ?_, Kd.R_set hR hrow (by decide) 0 u, Kd.R_set (Kd.R_over h.r1 h.r0 (by decide) hg) hrow (by decide) 0 u, Kd.R_set (Kd.R_over h.r2 h.r0 (by decide) hg) hrow (by decide) 0 u, Kd.R_set (Kd.R_over h.r3 h.r0 (by decide) hg) hrow (by decide) 0 u, Kd.R_set (Kd.R_over h.r4 h.r0 (by decide) hg) hrow (by decide) 0 u, Kd.R_set (Kd.R_over h.r5 h.r0 (by decide) hg) hrow (by decide) 0 u, Kd.R_set (Kd.R_over h.r6 h.r0 (by decide) hg) hrow (by decide) 0 u, Kd.R_set (Kd.R_over h.r8 h.r0 (by decide) hg) hrow (by decide) 0 u, Kd.R_set (Kd.R_over h.r9 h.r0 (by decide) hg) hrow (by decide) 0 u, Kd.R_set (Kd.R_over h.r10 h.r0 (by decide) hg) hrow (by decide) 0 u⟩
  exact hrow.put_ 0 u
theorem Mv.app2 (h : Mv w wc g cs x v0 v1 v2 v3 v4 v5 v6 v8 v9 v10) {u : Value} {ys : List _} (hR : Kd.R k101 101 w' w.heap.size (fun _ => True) u ys) (hg : wc.grownBy w' v2.ownBlock) :
    Mv w (w'.setCell ⟨g, 2, none⟩ u) g cs { x with f2 := ys } v0 v1 u v3 v4 v5 v6 v8 v9 v10 := by
  have hrow : Row w' g 61 #[v0, v1, v2, v3, v4, v5, v6, .int .i64 x.f7, v8, v9, v10] := h.row.grown hg (fun e => Kd.R_ne h.r2 h.row (by decide) e.symm)
  have hbox : Row w' w.heap.size 61 cs := h.box.grown hg (fun e => Kd.R_ne h.r2 h.box (by decide) e.symm)
  have hres : Row w' (w.heap.size + 1) 61 Z61 := h.res.grown hg (fun e => Kd.R_ne h.r2 h.res (by decide) e.symm)
  have hlo := h.lo
  have hlow : Below w.heap.size w w' := h.low.grown hg h.low.size (own_base (Kd.R_own h.r2).choose_spec)
  refine ⟨hbox.off (by show w.heap.size ≠ g; omega) u, hres.off (by show w.heap.size + 1 ≠ g; omega) u, h.lo, hlow.setCell (p := ⟨g, 2, none⟩) (by show w.heap.size ≤ g; omega) u, ?_, Kd.R_set (Kd.R_over h.r0 h.r2 (by decide) hg) hrow (by decide) 2 u, Kd.R_set (Kd.R_over h.r1 h.r2 (by decide) hg) hrow (by decide) 2 u, Kd.R_set hR hrow (by decide) 2 u, Kd.R_set (Kd.R_over h.r3 h.r2 (by decide) hg) hrow (by decide) 2 u, Kd.R_set (Kd.R_over h.r4 h.r2 (by decide) hg) hrow (by decide) 2 u, Kd.R_set (Kd.R_over h.r5 h.r2 (by decide) hg) hrow (by decide) 2 u, Kd.R_set (Kd.R_over h.r6 h.r2 (by decide) hg) hrow (by decide) 2 u, Kd.R_set (Kd.R_over h.r8 h.r2 (by decide) hg) hrow (by decide) 2 u, Kd.R_set (Kd.R_over h.r9 h.r2 (by decide) hg) hrow (by decide) 2 u, Kd.R_set (Kd.R_over h.r10 h.r2 (by decide) hg) hrow (by decide) 2 u⟩
  exact hrow.put_ 2 u
theorem Mv.app5 (h : Mv w wc g cs x v0 v1 v2 v3 v4 v5 v6 v8 v9 v10) {u : Value} {ys : List _} (hR : Kd.R k106 106 w' w.heap.size (fun _ => True) u ys) (hg : wc.grownBy w' v5.ownBlock) :
    Mv w (w'.setCell ⟨g, 5, none⟩ u) g cs { x with f5 := ys } v0 v1 v2 v3 v4 u v6 v8 v9 v10 := by
  have hrow : Row w' g 61 #[v0, v1, v2, v3, v4, v5, v6, .int .i64 x.f7, v8, v9, v10] := h.row.grown hg (fun e => Kd.R_ne h.r5 h.row (by decide) e.symm)
  have hbox : Row w' w.heap.size 61 cs := h.box.grown hg (fun e => Kd.R_ne h.r5 h.box (by decide) e.symm)
  have hres : Row w' (w.heap.size + 1) 61 Z61 := h.res.grown hg (fun e => Kd.R_ne h.r5 h.res (by decide) e.symm)
  have hlo := h.lo
  have hlow : Below w.heap.size w w' := h.low.grown hg h.low.size (own_base (Kd.R_own h.r5).choose_spec)
  refine ⟨hbox.off (by show w.heap.size ≠ g; omega) u, hres.off (by show w.heap.size + 1 ≠ g; omega) u, h.lo, hlow.setCell (p := ⟨g, 5, none⟩) (by show w.heap.size ≤ g; omega) u, ?_, Kd.R_set (Kd.R_over h.r0 h.r5 (by decide) hg) hrow (by decide) 5 u, Kd.R_set (Kd.R_over h.r1 h.r5 (by decide) hg) hrow (by decide) 5 u, Kd.R_set (Kd.R_over h.r2 h.r5 (by decide) hg) hrow (by decide) 5 u, Kd.R_set (Kd.R_over h.r3 h.r5 (by decide) hg) hrow (by decide) 5 u, Kd.R_set (Kd.R_over h.r4 h.r5 (by decide) hg) hrow (by decide) 5 u, Kd.R_set hR hrow (by decide) 5 u, Kd.R_set (Kd.R_over h.r6 h.r5 (by decide) hg) hrow (by decide) 5 u, Kd.R_set (Kd.R_over h.r8 h.r5 (by decide) hg) hrow (by decide) 5 u, Kd.R_set (Kd.R_over h.r9 h.r5 (by decide) hg) hrow (by decide) 5 u, Kd.R_set (Kd.R_over h.r10 h.r5 (by decide) hg) hrow (by decide) 5 u⟩
  exact hrow.put_ 5 u
theorem Mv.app8 (h : Mv w wc g cs x v0 v1 v2 v3 v4 v5 v6 v8 v9 v10) {u : Value} {ys : List _} (hR : Kd.R k108 108 w' w.heap.size (fun _ => True) u ys) (hg : wc.grownBy w' v8.ownBlock) :
    Mv w (w'.setCell ⟨g, 8, none⟩ u) g cs { x with f8 := ys } v0 v1 v2 v3 v4 v5 v6 u v9 v10 := by
  have hrow : Row w' g 61 #[v0, v1, v2, v3, v4, v5, v6, .int .i64 x.f7, v8, v9, v10] := h.row.grown hg (fun e => Kd.R_ne h.r8 h.row (by decide) e.symm)
  have hbox : Row w' w.heap.size 61 cs := h.box.grown hg (fun e => Kd.R_ne h.r8 h.box (by decide) e.symm)
  have hres : Row w' (w.heap.size + 1) 61 Z61 := h.res.grown hg (fun e => Kd.R_ne h.r8 h.res (by decide) e.symm)
  have hlo := h.lo
  have hlow : Below w.heap.size w w' := h.low.grown hg h.low.size (own_base (Kd.R_own h.r8).choose_spec)
  refine ⟨hbox.off (by show w.heap.size ≠ g; omega) u, hres.off (by show w.heap.size + 1 ≠ g; omega) u, h.lo, hlow.setCell (p := ⟨g, 8, none⟩) (by show w.heap.size ≤ g; omega) u, ?_, Kd.R_set (Kd.R_over h.r0 h.r8 (by decide) hg) hrow (by decide) 8 u, Kd.R_set (Kd.R_over h.r1 h.r8 (by decide) hg) hrow (by decide) 8 u, Kd.R_set (Kd.R_over h.r2 h.r8 (by decide) hg) hrow (by decide) 8 u, Kd.R_set (Kd.R_over h.r3 h.r8 (by decide) hg) hrow (by decide) 8 u, Kd.R_set (Kd.R_over h.r4 h.r8 (by decide) hg) hrow (by decide) 8 u, Kd.R_set (Kd.R_over h.r5 h.r8 (by decide) hg) hrow (by decide) 8 u, Kd.R_set (Kd.R_over h.r6 h.r8 (by decide) hg) hrow (by decide) 8 u, Kd.R_set hR hrow (by decide) 8 u, Kd.R_set (Kd.R_over h.r9 h.r8 (by decide) hg) hrow (by decide) 8 u, Kd.R_set (Kd.R_over h.r10 h.r8 (by decide) hg) hrow (by decide) 8 u⟩
  exact hrow.put_ 8 u
theorem Mv.app9 (h : Mv w wc g cs x v0 v1 v2 v3 v4 v5 v6 v8 v9 v10) {u : Value} {ys : List _} (hR : Kd.R k111 111 w' w.heap.size (fun _ => True) u ys) (hg : wc.grownBy w' v9.ownBlock) :
    Mv w (w'.setCell ⟨g, 9, none⟩ u) g cs { x with f9 := ys } v0 v1 v2 v3 v4 v5 v6 v8 u v10 := by
  have hrow : Row w' g 61 #[v0, v1, v2, v3, v4, v5, v6, .int .i64 x.f7, v8, v9, v10] := h.row.grown hg (fun e => Kd.R_ne h.r9 h.row (by decide) e.symm)
  have hbox : Row w' w.heap.size 61 cs := h.box.grown hg (fun e => Kd.R_ne h.r9 h.box (by decide) e.symm)
  have hres : Row w' (w.heap.size + 1) 61 Z61 := h.res.grown hg (fun e => Kd.R_ne h.r9 h.res (by decide) e.symm)
  have hlo := h.lo
  have hlow : Below w.heap.size w w' := h.low.grown hg h.low.size (own_base (Kd.R_own h.r9).choose_spec)
  refine ⟨hbox.off (by show w.heap.size ≠ g; omega) u, hres.off (by show w.heap.size + 1 ≠ g; omega) u, h.lo, hlow.setCell (p := ⟨g, 9, none⟩) (by show w.heap.size ≤ g; omega) u, ?_, Kd.R_set (Kd.R_over h.r0 h.r9 (by decide) hg) hrow (by decide) 9 u, Kd.R_set (Kd.R_over h.r1 h.r9 (by decide) hg) hrow (by decide) 9 u, Kd.R_set (Kd.R_over h.r2 h.r9 (by decide) hg) hrow (by decide) 9 u, Kd.R_set (Kd.R_over h.r3 h.r9 (by decide) hg) hrow (by decide) 9 u, Kd.R_set (Kd.R_over h.r4 h.r9 (by decide) hg) hrow (by decide) 9 u, Kd.R_set (Kd.R_over h.r5 h.r9 (by decide) hg) hrow (by decide) 9 u, Kd.R_set (Kd.R_over h.r6 h.r9 (by decide) hg) hrow (by decide) 9 u, Kd.R_set (Kd.R_over h.r8 h.r9 (by decide) hg) hrow (by decide) 9 u, Kd.R_set hR hrow (by decide) 9 u, Kd.R_set (Kd.R_over h.r10 h.r9 (by decide) hg) hrow (by decide) 9 u⟩
  exact hrow.put_ 9 u
theorem Mv.app10 (h : Mv w wc g cs x v0 v1 v2 v3 v4 v5 v6 v8 v9 v10) {u : Value} {ys : List _} (hR : Kd.R k121 121 w' w.heap.size (fun _ => True) u ys) (hg : wc.grownBy w' v10.ownBlock) :
    Mv w (w'.setCell ⟨g, 10, none⟩ u) g cs { x with f10 := ys } v0 v1 v2 v3 v4 v5 v6 v8 v9 u := by
  have hrow : Row w' g 61 #[v0, v1, v2, v3, v4, v5, v6, .int .i64 x.f7, v8, v9, v10] := h.row.grown hg (fun e => Kd.R_ne h.r10 h.row (by decide) e.symm)
  have hbox : Row w' w.heap.size 61 cs := h.box.grown hg (fun e => Kd.R_ne h.r10 h.box (by decide) e.symm)
  have hres : Row w' (w.heap.size + 1) 61 Z61 := h.res.grown hg (fun e => Kd.R_ne h.r10 h.res (by decide) e.symm)
  have hlo := h.lo
  have hlow : Below w.heap.size w w' := h.low.grown hg h.low.size (own_base (Kd.R_own h.r10).choose_spec)
  refine ⟨hbox.off (by show w.heap.size ≠ g; omega) u, hres.off (by show w.heap.size + 1 ≠ g; omega) u, h.lo, hlow.setCell (p := ⟨g, 10, none⟩) (by show w.heap.size ≤ g; omega) u, ?_, Kd.R_set (Kd.R_over h.r0 h.r10 (by decide) hg) hrow (by decide) 10 u, Kd.R_set (Kd.R_over h.r1 h.r10 (by decide) hg) hrow (by decide) 10 u, Kd.R_set (Kd.R_over h.r2 h.r10 (by decide) hg) hrow (by decide) 10 u, Kd.R_set (Kd.R_over h.r3 h.r10 (by decide) hg) hrow (by decide) 10 u, Kd.R_set (Kd.R_over h.r4 h.r10 (by decide) hg) hrow (by decide) 10 u, Kd.R_set (Kd.R_over h.r5 h.r10 (by decide) hg) hrow (by decide) 10 u, Kd.R_set (Kd.R_over h.r6 h.r10 (by decide) hg) hrow (by decide) 10 u, Kd.R_set (Kd.R_over h.r8 h.r10 (by decide) hg) hrow (by decide) 10 u, Kd.R_set (Kd.R_over h.r9 h.r10 (by decide) hg) hrow (by decide) 10 u, Kd.R_set hR hrow (by decide) 10 u⟩
  exact hrow.put_ 10 u
end
def put11 (w : World) (g : Nat) (a0 a1 a2 a3 a4 a5 a6 a7 a8 a9 a10 : Value) : World := (((((((((((w.setCell ⟨g, 0, none⟩ a0).setCell ⟨g, 1, none⟩ a1).setCell ⟨g, 2, none⟩ a2).setCell ⟨g, 3, none⟩ a3).setCell ⟨g, 4, none⟩ a4).setCell ⟨g, 5, none⟩ a5).setCell ⟨g, 6, none⟩ a6).setCell ⟨g, 7, none⟩ a7).setCell ⟨g, 8, none⟩ a8).setCell ⟨g, 9, none⟩ a9).setCell ⟨g, 10, none⟩ a10)
theorem put11_row {w : World} {g : Nat} {t : TypeId} {a0 a1 a2 a3 a4 a5 a6 a7 a8 a9 a10 z0 z1 z2 z3 z4 z5 z6 z7 z8 z9 z10 : Value} (h : Row w g t #[z0, z1, z2, z3, z4, z5, z6, z7, z8, z9, z10]) : Row (put11 w g a0 a1 a2 a3 a4 a5 a6 a7 a8 a9 a10) g t #[a0, a1, a2, a3, a4, a5, a6, a7, a8, a9, a10] := by
  unfold put11
  replace h : Row _ g t #[a0, z1, z2, z3, z4, z5, z6, z7, z8, z9, z10] := h.put_ 0 a0
  replace h : Row _ g t #[a0, a1, z2, z3, z4, z5, z6, z7, z8, z9, z10] := h.put_ 1 a1
  replace h : Row _ g t #[a0, a1, a2, z3, z4, z5, z6, z7, z8, z9, z10] := h.put_ 2 a2
  replace h : Row _ g t #[a0, a1, a2, a3, z4, z5, z6, z7, z8, z9, z10] := h.put_ 3 a3
  replace h : Row _ g t #[a0, a1, a2, a3, a4, z5, z6, z7, z8, z9, z10] := h.put_ 4 a4
  replace h : Row _ g t #[a0, a1, a2, a3, a4, a5, z6, z7, z8, z9, z10] := h.put_ 5 a5
  replace h : Row _ g t #[a0, a1, a2, a3, a4, a5, a6, z7, z8, z9, z10] := h.put_ 6 a6
  replace h : Row _ g t #[a0, a1, a2, a3, a4, a5, a6, a7, z8, z9, z10] := h.put_ 7 a7
  replace h : Row _ g t #[a0, a1, a2, a3, a4, a5, a6, a7, a8, z9, z10] := h.put_ 8 a8
  replace h : Row _ g t #[a0, a1, a2, a3, a4, a5, a6, a7, a8, a9, z10] := h.put_ 9 a9
  replace h : Row _ g t #[a0, a1, a2, a3, a4, a5, a6, a7, a8, a9, a10] := h.put_ 10 a10
  exact h
theorem put11_off {w : World} {g : Nat} {a0 a1 a2 a3 a4 a5 a6 a7 a8 a9 a10 : Value} (k : Nat) (h : k ≠ g) : (put11 w g a0 a1 a2 a3 a4 a5 a6 a7 a8 a9 a10).heap[k]? = w.heap[k]? := by
  unfold put11
  have e := fun (w : World) (i : Nat) (u : Value) => Below.heap_setCell w ⟨g, i, none⟩ u k h
  rw [e, e, e, e, e, e, e, e, e, e, e]
theorem put11_below {B : Nat} {a w : World} {g : Nat} {a0 a1 a2 a3 a4 a5 a6 a7 a8 a9 a10 : Value} (h : Below B a w) (hg : B ≤ g) : Below B a (put11 w g a0 a1 a2 a3 a4 a5 a6 a7 a8 a9 a10) := by
  unfold put11
  exact (((((((((((h.setCell (p := ⟨g, 0, none⟩) hg a0).setCell (p := ⟨g, 1, none⟩) hg a1).setCell (p := ⟨g, 2, none⟩) hg a2).setCell (p := ⟨g, 3, none⟩) hg a3).setCell (p := ⟨g, 4, none⟩) hg a4).setCell (p := ⟨g, 5, none⟩) hg a5).setCell (p := ⟨g, 6, none⟩) hg a6).setCell (p := ⟨g, 7, none⟩) hg a7).setCell (p := ⟨g, 8, none⟩) hg a8).setCell (p := ⟨g, 9, none⟩) hg a9).setCell (p := ⟨g, 10, none⟩) hg a10)
theorem Mv.first {w wc : World} {g : Nat} {cs : Array Value} {m : S61} {v1 v3 v4 v6 : Value} (hx : Row wc w.heap.size 61 cs) (hz : Row wc (w.heap.size + 1) 61 Z61) (hl : w.heap.size + 2 ≤ g) (hb : Below w.heap.size w wc) (hg : Row wc g 61 Z61)
    (r1 : k118.R 118 wc w.heap.size (fun _ => True) v1 m.f1) (r3 : k38.R 38 wc w.heap.size (fun _ => True) v3 m.f3) (r4 : k38.R 38 wc w.heap.size (fun _ => True) v4 m.f4) (r6 : k74.R 74 wc w.heap.size (fun _ => True) v6 m.f6) :
    Mv w (put11 wc g (.slice none 0 0) v1 (.slice none 0 0) v3 v4 (.slice none 0 0) v6 (.int .i64 m.f7) (.slice none 0 0) (.slice none 0 0) (.slice none 0 0)) g cs ⟨[], m.f1, [], m.f3, m.f4, [], m.f6, m.f7, [], [], []⟩ (.slice none 0 0) v1 (.slice none 0 0) v3 v4 (.slice none 0 0) v6 (.slice none 0 0) (.slice none 0 0) (.slice none 0 0) := by
  refine ⟨(put11_off _ (by omega)).trans hx, (put11_off _ (by omega)).trans hz, hl, put11_below hb (by omega), put11_row hg, Kd.R_nil _ _ _ _ _, ?_, Kd.R_nil _ _ _ _ _, ?_, ?_, Kd.R_nil _ _ _ _ _, ?_, Kd.R_nil _ _ _ _ _, Kd.R_nil _ _ _ _ _, Kd.R_nil _ _ _ _ _⟩
  · exact Kd.R_mono (Kd.R_step (Kd.R_types r1 hg (by decide)) (fun k hk _ => put11_off k hk.2)) (fun _ hk => hk.1)
  · exact Kd.R_mono (Kd.R_step (Kd.R_types r3 hg (by decide)) (fun k hk _ => put11_off k hk.2)) (fun _ hk => hk.1)
  · exact Kd.R_mono (Kd.R_step (Kd.R_types r4 hg (by decide)) (fun k hk _ => put11_off k hk.2)) (fun _ hk => hk.1)
  · exact Kd.R_mono (Kd.R_step (Kd.R_types r6 hg (by decide)) (fun k hk _ => put11_off k hk.2)) (fun _ hk => hk.1)
theorem Mv.last {w wc : World} {g : Nat} {cs : Array Value} {m : S61} {v0 v1 v2 v3 v4 v5 v6 v8 v9 v10 : Value} (h : Mv w wc g cs m v0 v1 v2 v3 v4 v5 v6 v8 v9 v10) :
    Row (put11 wc (w.heap.size + 1) v0 v1 v2 v3 v4 v5 v6 (.int .i64 m.f7) v8 v9 v10) (w.heap.size + 1) 61 #[v0, v1, v2, v3, v4, v5, v6, .int .i64 m.f7, v8, v9, v10] ∧ Below w.heap.size w (put11 wc (w.heap.size + 1) v0 v1 v2 v3 v4 v5 v6 (.int .i64 m.f7) v8 v9 v10) ∧
      k61.M (put11 wc (w.heap.size + 1) v0 v1 v2 v3 v4 v5 v6 (.int .i64 m.f7) v8 v9 v10) w.heap.size (fun _ => True) m [v0, v1, v2, v3, v4, v5, v6, .int .i64 m.f7, v8, v9, v10] := by
  have hm {α : Type} {d : Kd α} {e : Nat} {v : Value} {xs : List α} (r : d.R e wc w.heap.size (fun _ => True) v xs) (ht : ∀ q, q ∈ e :: d.E → q ≠ 61) : d.R e (put11 wc (w.heap.size + 1) v0 v1 v2 v3 v4 v5 v6 (.int .i64 m.f7) v8 v9 v10) w.heap.size (fun _ => True) v xs :=
    Kd.R_mono (Kd.R_step (Kd.R_types r h.res ht) (fun k hk _ => put11_off k hk.2)) (fun _ hk => hk.1)
  exact ⟨put11_row h.res, put11_below h.low (Nat.le_succ _), k61_mkM _ _ _ m (hm h.r0 (by decide)) (hm h.r1 (by decide)) (hm h.r2 (by decide)) (hm h.r3 (by decide)) (hm h.r4 (by decide)) (hm h.r5 (by decide)) (hm h.r6 (by decide)) (hm h.r8 (by decide)) (hm h.r9 (by decide)) (hm h.r10 (by decide))⟩
theorem type_copy {w : World} {A B : Option Addr} {c d : Nat} (x : S25) (h0 : x.f0.length * 8 ≤ 140737488351232) (h1 : x.f1.length * 8 ≤ 140737488351232) (l0 : x.f0.length ≤ c) (g0 : (Kd.int .i64).C w A x.f0.length x.f0) (l1 : x.f1.length ≤ d) (g1 : (Kd.int .i64).C w B x.f1.length x.f1) :
    Calls Try.prog 22 #[.agg #[.slice A x.f0.length c, .slice B x.f1.length d]] w fun e w' => ∃ v0 v1 : Value, e = .returned (.agg #[v0, v1]) ∧ (Kd.int .i64).R 3 w' w.heap.size (fun _ => True) v0 x.f0 ∧ (Kd.int .i64).R 3 w' w.heap.size (fun _ => True) v1 x.f1 ∧ Below w.heap.size w w' := by
  refine (St.copied_calls g0 l0 h0 g1 l1 h1).mono ?_
  rintro e w' ⟨A', c', B', d', rfl, r0, r1, hb⟩
  exact ⟨_, _, rfl, r0, r1, hb⟩
theorem ints_copy {w : World} {A : Option Addr} {c : Nat} (l : List Int) (h0 : l.length * 8 ≤ 140737488351232) (l0 : l.length ≤ c) (g0 : (Kd.int .i64).C w A l.length l) :
    Calls Try.prog 25 #[.slice A l.length c] w fun e w' => ∃ v0 : Value, e = .returned v0 ∧ (Kd.int .i64).R 3 w' w.heap.size (fun _ => True) v0 l ∧ Below w.heap.size w w' :=
  slices_Clone_int_int.calls A c l l w g0 l0 (by unfold slices_Clone_int_int.f; rw [if_pos h0])
end Go.Proofs.Ytbelijoggbblgaa.Ex
