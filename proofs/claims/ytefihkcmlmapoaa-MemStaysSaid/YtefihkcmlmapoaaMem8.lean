import Derived.Test.YtefihkcmlmapoaaMem7
import Derived.OwnWalk
namespace Go.Proofs.Ytefihkcmlmapoaa.Mem
open Go.RowKit Go.Proofs.YtefihkcmlmapoaaW.PrintWords Go.Proofs.YtefihkcmlmapoaaW.PrintLast Go.Proofs.YtefihkcmlmapoaaW.PrintMore Go.Proofs.Ytefihkcmlmapoaa.PMemHalves
set_option linter.unusedVariables false
set_option linter.unusedSimpArgs false
def blk (A : Option Addr) : Option Nat := A.map (·.block)
/-- A memory (or its model): the block g is a record of a slice that the call owns, and a number. -/
structure Mm (w : World) (base : Nat) (ty : TypeId) (g : Nat) (A : Option Addr) (n c : Nat) (xs : List Int) (most : Int) : Prop where
  len : xs.length = n
  lo : base ≤ g
  row : Row w g ty #[.slice A n c, .int .i64 most]
  own : w.ownsRow base 5 1 (.slice A n c) n (xs.map (Value.int .u8))
  rng : ∀ x ∈ xs, 0 ≤ x ∧ x < 256
theorem ownBlock_slice (A : Option Addr) (n c : Nat) : (Value.slice A n c).ownBlock = blk A := by cases A <;> rfl
theorem Row.grown {w w' : World} {g : Nat} {t : TypeId} {cs : Array Value} (h : Row w g t cs) {row : Option Nat} (hg : w.grownBy w' row) (hne : row ≠ some g) : Row w' g t cs :=
  (hg.block g h.lt (fun e => hne e.symm)).trans h
theorem Mm.kept {w w' : World} {base : Nat} {ty : TypeId} {g : Nat} {A : Option Addr} {n c : Nat} {xs : List Int} {most : Int} (h : Mm w base ty g A n c xs most) {row : Option Nat} (hg : w.grownBy w' row)
    (h1 : row ≠ some g) (h2 : blk A = none ∨ blk A ≠ row) : Mm w' base ty g A n c xs most :=
  ⟨h.len, h.lo, h.row.grown hg h1, h.own.kept hg (by rw [ownBlock_slice]; exact h2), h.rng⟩
theorem Mm.drewN {w : World} {base : Nat} {ty : TypeId} {g : Nat} {A : Option Addr} {n c : Nat} {xs : List Int} {most : Int} (h : Mm w base ty g A n c xs most) (k : Nat) : Mm (w.drewN k) base ty g A n c xs most := ⟨h.len, h.lo, h.row, h.own, h.rng⟩
theorem Mm.alloc {w : World} {base : Nat} {ty : TypeId} {g : Nat} {A : Option Addr} {n c : Nat} {xs : List Int} {most : Int} (h : Mm w base ty g A n c xs most) (o : Obj) : Mm (w.alloc o) base ty g A n c xs most := ⟨h.len, h.lo, h.row.alloc o, h.own.alloc o, h.rng⟩
/-- Where the slice has an element it has an address, another block than the record's. -/
theorem Mm.ptr {w : World} {base : Nat} {ty : TypeId} {g : Nat} {A : Option Addr} {n c : Nat} {xs : List Int} {most : Int} (h : Mm w base ty g A n c xs most) (hn : 0 < n) (ht : ty ≠ 5) : ∃ b, A = some ⟨b, 0, none⟩ ∧ base ≤ b ∧ g ≠ b := by
  rcases h.own.2 with ⟨hv, h0⟩ | ⟨b, cap, cur, hv, hb, hh, _⟩
  · omega
  · simp only [Value.slice.injEq] at hv
    exact ⟨b, hv.1, hb, h.row.differ hh ht⟩
theorem Mm.ne {w : World} {base : Nat} {ty : TypeId} {g : Nat} {A : Option Addr} {n c : Nat} {xs : List Int} {most : Int} (h : Mm w base ty g A n c xs most) (ht : ty ≠ 5) : blk A ≠ some g := by
  rcases h.own.2 with ⟨hv, h0⟩ | ⟨b, cap, cur, hv, hb, hh, _⟩
  · simp only [Value.slice.injEq] at hv; rw [hv.1]; simp [blk]
  · simp only [Value.slice.injEq] at hv; rw [hv.1]; simp only [blk, Option.map_some, ne_eq, Option.some.injEq]
    exact fun e => h.row.differ hh ht e.symm
theorem Mm.cell {w : World} {base : Nat} {ty : TypeId} {g b : Nat} {n c : Nat} {xs : List Int} {most : Int} (h : Mm w base ty g (some ⟨b, 0, none⟩) n c xs most) (i : Nat) (hi : i < n) : w.cell? ⟨b, i, none⟩ = some (.int .u8 (xs.getD i 0)) := by
  rw [h.own.cellAt i (by omega)]
  have := h.len
  simp [List.getD, show i < xs.length by omega]
theorem Mm.frozen {w : World} {base : Nat} {ty : TypeId} {g b : Nat} {n c : Nat} {xs : List Int} {most : Int} (h : Mm w base ty g (some ⟨b, 0, none⟩) n c xs most) (i : Nat) : w.frozen? ⟨b, i, none⟩ = false := h.own.frozenAt i
theorem Mm.set {w : World} {base : Nat} {ty : TypeId} {g b : Nat} {n c : Nat} {xs : List Int} {most : Int} (h : Mm w base ty g (some ⟨b, 0, none⟩) n c xs most) (ht : ty ≠ 5) (i : Nat) (x : Int) (hx : 0 ≤ x ∧ x < 256) :
    Mm (w.setCell ⟨b, i, none⟩ (.int .u8 x)) base ty g (some ⟨b, 0, none⟩) n c (xs.set i x) most := by
  have hne := h.ne ht
  refine ⟨by rw [List.length_set, h.len], h.lo, h.row.off (p := ⟨b, i, none⟩) (fun e => hne (by simp [blk, e])) _, ?_, ?_⟩
  · have h2 := h.own.stored i (.int .u8 x)
    rw [List.map_set]; exact h2.1
  · intro y hy
    rcases List.mem_or_eq_of_mem_set hy with h1 | rfl
    · exact h.rng y h1
    · exact hx
theorem grown_set {a w : World} {b : Nat} (h : a.grownBy w (some b)) (i : Nat) (u : Value) : a.grownBy (w.setCell ⟨b, i, none⟩ u) (some b) :=
  ⟨h.os, h.tape, h.output, by simpa [World.setCell] using h.size, fun k hk hne => (Below.heap_setCell w ⟨b, i, none⟩ u k (by rintro rfl; exact hne rfl)).trans (h.block k hk hne)⟩
theorem grown_drewN {a w : World} {row : Option Nat} (h : a.grownBy w row) (n : Nat) : a.grownBy (w.drewN n) row := ⟨h.os, h.tape, h.output, h.size, h.block⟩
theorem grown_drew {a w : World} {row : Option Nat} (h : a.grownBy w row) : a.grownBy w.drew row := ⟨h.os, h.tape, h.output, h.size, h.block⟩
theorem grown_of_below {a w : World} (h : Below a.heap.size a w) (row : Option Nat) : a.grownBy w row := ⟨h.os, h.tape, h.output, h.size, fun i hi _ => h.block i hi⟩
theorem grown_of_drawn {a w : World} (h : Drawn0 a w) (row : Option Nat) : a.grownBy w row := by
  obtain ⟨n, rfl⟩ := h
  exact grown_drewN (World.grownBy.refl _ _) n
theorem grown_trans {a b c : World} {row : Option Nat} (h : a.grownBy b row) (k : b.grownBy c row) : a.grownBy c row :=
  ⟨k.os.trans h.os, k.tape.trans h.tape, k.output.trans h.output, Nat.le_trans h.size k.size, fun i hi hne => (k.block i (Nat.lt_of_lt_of_le hi h.size) hne).trans (h.block i hi hne)⟩
theorem below_of_grown {B : Nat} {a w : World} {row : Option Nat} (h : a.grownBy w row) (hB : B ≤ a.heap.size) (hr : ∀ k, row = some k → B ≤ k) : Below B a w := (Below.refl B a).grown h hB hr
end Go.Proofs.Ytefihkcmlmapoaa.Mem
