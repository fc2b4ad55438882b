import Derived.Test.YtbelijoggbblgaaSp1
namespace Go.Proofs.Ytbelijoggbblgaa.Sp
open Go.RowKit Go.Proofs.YtbelijoggbblgaaW.PrintWords Go.Proofs.YtbelijoggbblgaaW.PrintLast Go.Proofs.YtbelijoggbblgaaW.PrintMore Go.Proofs.Ytbelijoggbblgaa.PStorePlays Go.Proofs.Ytbelijoggbblgaa.St
set_option linter.unusedVariables false
set_option linter.unusedSimpArgs false
/-- May there be a table of these limits? -/
def tabOk (lo hi : Int) (has : Bool) : Prop := 0 ≤ lo ∧ lo ≤ 64 ∧ (has = true → lo ≤ hi ∧ hi ≤ 64)
set_option maxHeartbeats 2000000 in
theorem addTable_no (w : World) (s : Nat) (lo hi : Int) (has : Bool) (h : ¬ tabOk lo hi has) :
    Calls Try.prog 9 #[.pointer (some ⟨s, 0, none⟩), .agg #[.int .i64 lo, .int .i64 hi, .bool has]] w fun e w' => e = .returned (.tuple #[.int .i64 0, .iface 92 (.int .i64 1)]) ∧ Below w.heap.size w w' := by
  unfold tabOk at h
  cases has
  · by_cases a1 : lo < 0
    · have e1 : decide (lo < 0) = true := decide_eq_true a1
      go_enter Try.func9, Try.ntmps9
      go_wp2
      go_ret2
      exact ⟨rfl, below_alloc (Below.refl _ _) _⟩
    · have e1 : decide (lo < 0) = false := decide_eq_false a1
      have e2 : decide (64 < lo) = true := decide_eq_true (by simp at h; omega)
      go_enter Try.func9, Try.ntmps9
      go_wp2
      go_ret2
      exact ⟨rfl, below_alloc (Below.refl _ _) _⟩
  · by_cases a1 : lo < 0
    · have e1 : decide (lo < 0) = true := decide_eq_true a1
      go_enter Try.func9, Try.ntmps9
      go_wp2
      go_ret2
      exact ⟨rfl, below_alloc (Below.refl _ _) _⟩
    · have e1 : decide (lo < 0) = false := decide_eq_false a1
      by_cases a2 : 64 < lo
      · have e2 : decide (64 < lo) = true := decide_eq_true a2
        go_enter Try.func9, Try.ntmps9
        go_wp2
        go_ret2
        exact ⟨rfl, below_alloc (Below.refl _ _) _⟩
      · have e2 : decide (64 < lo) = false := decide_eq_false a2
        by_cases a3 : hi < lo
        · have e3 : decide (hi < lo) = true := decide_eq_true a3
          go_enter Try.func9, Try.ntmps9
          go_wp2
          go_ret2
          exact ⟨rfl, below_alloc (Below.refl _ _) _⟩
        · have e3 : decide (hi < lo) = false := decide_eq_false a3
          have e4 : decide (64 < hi) = true := decide_eq_true (by simp at h; omega)
          go_enter Try.func9, Try.ntmps9
          go_wp2
          go_ret2
          exact ⟨rfl, below_alloc (Below.refl _ _) _⟩
theorem has94 (A : Option Addr) (n c : Nat) (i : Int) (w : World) : Calls Try.prog 24 #[.slice A n c, .int .i64 i] w fun e w' => e = .returned (.bool (decide (0 ≤ i ∧ i < (n : Int)))) ∧ Drawn0 w w' := by
  by_cases h0 : 0 ≤ i
  · have g0 : decide (0 ≤ i) = true := decide_eq_true h0
    by_cases h1 : i < (n : Int)
    · have g1 : decide (i < (n : Int)) = true := decide_eq_true h1
      rw [decide_eq_true (And.intro h0 h1)]
      clear h0 h1
      go_enter Try.func24, Try.ntmps24
      go_wp2
      go_ret
      exact ⟨rfl, 0, rfl⟩
    · have g1 : decide (i < (n : Int)) = false := decide_eq_false h1
      rw [decide_eq_false (fun h : 0 ≤ i ∧ i < (n : Int) => h1 h.2)]
      clear h0 h1
      go_enter Try.func24, Try.ntmps24
      go_wp2
      go_ret
      exact ⟨rfl, 0, rfl⟩
  · have g0 : decide (0 ≤ i) = false := decide_eq_false h0
    rw [decide_eq_false (fun h : 0 ≤ i ∧ i < (n : Int) => h0 h.1)]
    clear h0
    go_enter Try.func24, Try.ntmps24
    go_wp2
    go_ret
    exact ⟨rfl, 0, rfl⟩
theorem has126 (A : Option Addr) (n c : Nat) (i : Int) (w : World) : Calls Try.prog 50 #[.slice A n c, .int .i64 i] w fun e w' => e = .returned (.bool (decide (0 ≤ i ∧ i < (n : Int)))) ∧ Drawn0 w w' := by
  by_cases h0 : 0 ≤ i
  · have g0 : decide (0 ≤ i) = true := decide_eq_true h0
    by_cases h1 : i < (n : Int)
    · have g1 : decide (i < (n : Int)) = true := decide_eq_true h1
      rw [decide_eq_true (And.intro h0 h1)]
      clear h0 h1
      go_enter Try.func50, Try.ntmps50
      go_wp2
      go_ret
      exact ⟨rfl, 0, rfl⟩
    · have g1 : decide (i < (n : Int)) = false := decide_eq_false h1
      rw [decide_eq_false (fun h : 0 ≤ i ∧ i < (n : Int) => h1 h.2)]
      clear h0 h1
      go_enter Try.func50, Try.ntmps50
      go_wp2
      go_ret
      exact ⟨rfl, 0, rfl⟩
  · have g0 : decide (0 ≤ i) = false := decide_eq_false h0
    rw [decide_eq_false (fun h : 0 ≤ i ∧ i < (n : Int) => h0 h.1)]
    clear h0
    go_enter Try.func50, Try.ntmps50
    go_wp2
    go_ret
    exact ⟨rfl, 0, rfl⟩
end Go.Proofs.Ytbelijoggbblgaa.Sp
