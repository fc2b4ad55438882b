import Derived.Test.YtbelijoggbblgaaSp12
import Derived.Test.YtbelijoggbblgaaSp2
import Derived.Deep.RegionLaw
namespace Go.Proofs.Ytbelijoggbblgaa.Sp
open Go.RowKit Go.Proofs.YtbelijoggbblgaaW.PrintWords Go.Proofs.YtbelijoggbblgaaW.PrintLast Go.Proofs.YtbelijoggbblgaaW.PrintMore Go.Proofs.Ytbelijoggbblgaa.PStorePlays Go.Proofs.Ytbelijoggbblgaa.St
set_option linter.unusedVariables false
set_option linter.unusedSimpArgs false
/-- The store beside its model. -/
def Pl (w W0 : World) (base s m : Nat) (F : List S32) (L : List (List Int × Int)) (N : List (Nat × Int)) (G : List S41) : Prop :=
  ∃ tag vF vT vM vG T M uF uT uX uM uG F' T' M', Sh w base s tag F L N G vF vT vM vG T M ∧ Mh w W0 base m tag F L N G uF uT uX uM uG F' T' M'
/-- What one deed leaves. -/
def ODone (w w' W0 : World) (base s m : Nat) (F : List S32) (L : List (List Int × Int)) (N : List (Nat × Int)) (G : List S41) : Prop :=
  (∃ F1 L1 N1 G1, Pl w' W0 base s m F1 L1 N1 G1 ∧ F1.length ≤ F.length + 1 ∧ L1.length ≤ L.length + 1 ∧ N1.length ≤ N.length + 1 ∧ G1.length ≤ G.length + 1) ∧ Below W0.heap.size w w'
def tag0 (w : World) (tag : Nat → Nat) : Nat → Nat := fun k => if k < w.heap.size then tag k else 0
theorem tag0_old (w : World) (tag : Nat → Nat) : ∀ k, k < w.heap.size → tag0 w tag k = tag k := fun k hk => if_pos hk
theorem tag0_new (w : World) (tag : Nat → Nat) (k : Nat) (h : w.heap.size ≤ k) : tag0 w tag k = 0 := if_neg (by omega)
section
variable {w w1 W0 : World} {base s m : Nat} {tag tag1 : Nat → Nat} {F : List S32} {L : List (List Int × Int)} {N : List (Nat × Int)} {G : List S41} {vF vT vM vG uF uT uX uM uG : Value} {F' T M : List (List Value)}
theorem Sh.begin (h : Sh w base s tag F L N G vF vT vM vG T M) (hb : Below w.heap.size w w1) : Sh w1 base s (tag0 w tag) F L N G vF vT vM vG T M := h.frame hb.size (hb.block _ h.st.row.lt) (fun k _ hk _ => hb.block k hk) (tag0_old w tag)
theorem Mh.begin (h : Mh w W0 base m tag F L N G uF uT uX uM uG F' T M) (hb : Below w.heap.size w w1) : Mh w1 W0 base m (tag0 w tag) F L N G uF uT uX uM uG F' T M := h.frame hb.size (hb.block _ h.md.row.lt) (fun k _ hk _ => hb.block k hk) (tag0_old w tag)
theorem SOnly.keep (h : SOnly w w1 base s tag) {k : Nat} (hk : k < w.heap.size) (h0 : tag k = 0) (hs : k ≠ s) : w1.heap[k]? = w.heap[k]? := h.block k hk (by rintro (rfl | ⟨_, i, hi⟩); exact hs rfl; omega)
theorem MOnly.keep (h : MOnly w w1 base m tag) {k : Nat} (hk : k < w.heap.size) (h0 : tag k = 0) (hs : k ≠ m) : w1.heap[k]? = w.heap[k]? := h.block k hk (by rintro (rfl | ⟨_, i, hi⟩); exact hs rfl; omega)
theorem SOnly.low (h : SOnly w w1 base s tag) {k : Nat} (hk : k < w.heap.size) (h0 : k < base) (hs : k ≠ s) : w1.heap[k]? = w.heap[k]? := h.block k hk (by rintro (rfl | ⟨_, i, hi⟩); exact hs rfl; omega)
theorem MOnly.low (h : MOnly w w1 base m tag) {k : Nat} (hk : k < w.heap.size) (h0 : k < base) (hs : k ≠ m) : w1.heap[k]? = w.heap[k]? := h.block k hk (by rintro (rfl | ⟨_, i, hi⟩); exact hs rfl; omega)
theorem Row.same {g : Nat} {t : TypeId} {cs : Array Value} (h : Row w g t cs) (e : w1.heap[g]? = w.heap[g]?) : Row w1 g t cs := e.trans h
theorem SOnly.below {B : Nat} (h : SOnly w w1 base s tag) (h0 : B ≤ w.heap.size) (h1 : B ≤ s) (h2 : B ≤ base) : Below B w w1 := ⟨h.os, h.tape, h.output, h.size, fun k hk => h.block k (by omega) (by rintro (rfl | ⟨a, _⟩) <;> omega)⟩
theorem MOnly.below {B : Nat} (h : MOnly w w1 base m tag) (h0 : B ≤ w.heap.size) (h1 : B ≤ m) (h2 : B ≤ base) : Below B w w1 := ⟨h.os, h.tape, h.output, h.size, fun k hk => h.block k (by omega) (by rintro (rfl | ⟨a, _⟩) <;> omega)⟩
/-- A model's row of functions, where its slice lies. -/
theorem Md.cells {ok : Nat → Prop} {X : List Int} (h : Md w base m ok uF uT uX uM uG F' T X M G) : w.cell? ⟨m, 0, none⟩ = some uF ∧ w.cell? ⟨m, 1, none⟩ = some uT ∧ w.cell? ⟨m, 2, none⟩ = some uX ∧ w.cell? ⟨m, 3, none⟩ = some uM ∧ w.cell? ⟨m, 4, none⟩ = some uG ∧ ∀ j, w.frozen? ⟨m, j, none⟩ = false :=
  ⟨h.row.cell 0, h.row.cell 1, h.row.cell 2, h.row.cell 3, h.row.cell 4, h.row.frozen⟩
end
abbrev D14 (what n1 at_ : Int) (P : Option Addr) (np cp : Nat) (R : Option Addr) (nr cr : Nat) (inst fn ans lo hi : Int) (has : Bool) (ty : Int) (mu : Bool) (v : Int) : Array Value :=
  #[.int .i64 what, .int .i64 n1, .int .i64 at_, .slice P np cp, .slice R nr cr, .int .i64 inst, .int .i64 fn, .int .u64 ans, .int .i64 lo, .int .i64 hi, .bool has, .int .i64 ty, .bool mu, .int .u64 v]
end Go.Proofs.Ytbelijoggbblgaa.Sp
