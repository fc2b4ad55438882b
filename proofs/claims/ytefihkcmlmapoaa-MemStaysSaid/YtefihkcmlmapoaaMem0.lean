import Derived.Test.YtefihkcmlmapoaaPMemHalvesx1
import Derived.Laws.OwnMore
namespace Go.Proofs.Ytefihkcmlmapoaa.Mem
open Go.RowKit Go.Proofs.YtefihkcmlmapoaaW.PrintWords Go.Proofs.YtefihkcmlmapoaaW.PrintLast Go.Proofs.YtefihkcmlmapoaaW.PrintMore
set_option linter.unusedVariables false
set_option linter.unusedSimpArgs false

/-- The block g of the heap is just these cells. -/
def Row (w : World) (g : Nat) (t : TypeId) (cs : Array Value) : Prop := w.heap[g]? = some (.cells cs t (0, 0))
theorem Row.cell {w : World} {g : Nat} {t : TypeId} {cs : Array Value} (h : Row w g t cs) (i : Nat) : w.cell? ⟨g, i, none⟩ = cs[i]? := cell_of_row w g i cs t (0, 0) h
theorem Row.lt {w : World} {g : Nat} {t : TypeId} {cs : Array Value} (h : Row w g t cs) : g < w.heap.size := by
  rcases Nat.lt_or_ge g w.heap.size with hlt | hge
  · exact hlt
  · unfold Row at h; rw [Array.getElem?_eq_none hge] at h; cases h
theorem Row.alloc {w : World} {g : Nat} {t : TypeId} {cs : Array Value} (h : Row w g t cs) (o : Obj) : Row (w.alloc o) g t cs := (Below.heap_alloc w o g h.lt).trans h
theorem Row.made (w : World) (t : TypeId) (cs : Array Value) {g : Nat} (h : g = w.heap.size) : Row (w.alloc (.cells cs t)) g t cs := by subst h; exact heap_alloc_new w _
theorem Row.frozen {w : World} {g : Nat} {t : TypeId} {cs : Array Value} (h : Row w g t cs) (i : Nat) : w.frozen? ⟨g, i, none⟩ = false := by
  unfold Row at h
  simp [World.frozen?, h]

set_option maxHeartbeats 1000000 in
theorem there_calls {w : World} {g n c : Nat} {A : Option Addr} {most : Int} (h : Row w g 55 #[.slice A n c, .int .i64 most]) (at_ m : Int) :
    Calls Try.prog 22 #[.pointer (some ⟨g, 0, none⟩), .int .u64 at_, .int .i64 m] w fun e w' => e = .returned (.bool (decide (at_ ≤ IntKind.u64.wrap n) && decide (IntKind.u64.wrap m ≤ IntKind.u64.wrap (IntKind.u64.wrap n - at_)))) ∧ Drawn0 w w' := by
  have c0 : w.cell? ⟨g, 0, none⟩ = some (.slice A n c) := h.cell 0
  by_cases h1 : at_ ≤ IntKind.u64.wrap n
  · have d1 : decide (at_ ≤ IntKind.u64.wrap n) = true := decide_eq_true h1
    go_enter Try.func22, Try.ntmps22
    go_wp2
    go_ret
    exact ⟨by rw [d1, Bool.true_and]; rfl, Drawn0.refl _⟩
  · have d1 : decide (at_ ≤ IntKind.u64.wrap n) = false := decide_eq_false h1
    go_enter Try.func22, Try.ntmps22
    go_wp2
    go_ret
    exact ⟨rfl, Drawn0.refl _⟩



set_option maxHeartbeats 1000000 in
theorem new_calls (w : World) (lo hi : Int) (has : Bool) (h0 : 0 ≤ lo) (h1 : lo ≤ 16) (h2 : has = true → lo ≤ hi ∧ hi ≤ 16) :
    Calls Try.prog 10 #[.agg #[.int .i64 lo, .int .i64 hi, .bool has]] w fun e w' => e = .returned (.tuple #[.pointer (some ⟨w.heap.size + 1 + 1, 0, none⟩), .nilIface]) ∧
      Row w' (w.heap.size + 1) 5 (madeCells #[.int .u8 0] (lo * 256).toNat) ∧ Row w' (w.heap.size + 1 + 1) 55 #[.slice (some ⟨w.heap.size + 1, 0, none⟩) (lo * 256).toNat (lo * 256).toNat, .int .i64 (if has = true then hi else 16)] ∧ Below w.heap.size w w' := by
  have hm := print_make_int (P := Try.prog) 40 5 (.int .u8 0) 1 (by kernel_rfl) (by kernel_rfl) rfl (by decide) (lo * 256) (by omega) (by omega)
  have hw : IntKind.i64.wrap (lo * 256) = lo * 256 := by rw [IntKind.wrap_i64]; omega
  have e1 : decide (lo < 0) = false := decide_eq_false (by omega)
  have e2 : decide (16 < lo) = false := decide_eq_false (by omega)
  cases has
  · go_enter Try.func10, Try.ntmps10
    go_wp2
    all_goals (try (exfalso; omega))
    go_ret2
    refine ⟨rfl, Row.alloc (Row.made _ _ _ (by simp)) _, Row.made _ _ _ (by simp), below_alloc (below_alloc (below_alloc (Below.refl _ _) _) _) _⟩
  · obtain ⟨h3, h4⟩ := h2 rfl
    go_enter Try.func10, Try.ntmps10
    go_wp2
    all_goals (try (exfalso; omega))
    all_goals go_ret2
    refine ⟨rfl, Row.alloc (Row.made _ _ _ (by simp)) _, Row.made _ _ _ (by simp), below_alloc (below_alloc (below_alloc (Below.refl _ _) _) _) _⟩
end Go.Proofs.Ytefihkcmlmapoaa.Mem
