import Derived.Test.YtefihkcmlmapoaaMem6
namespace Go.Proofs.Ytefihkcmlmapoaa.Mem
open Go.RowKit Go.Proofs.YtefihkcmlmapoaaW.PrintWords Go.Proofs.YtefihkcmlmapoaaW.PrintLast Go.Proofs.YtefihkcmlmapoaaW.PrintMore Go.Proofs.Ytefihkcmlmapoaa.PMemHalves
theorem may_f (lo hi : Int) (has : Bool) : grommetref15_May.f lo hi has = some (decide (0 ≤ lo ∧ lo ≤ 16 ∧ (has = true → lo ≤ hi ∧ hi ≤ 16))) := by
  unfold grommetref15_May.f
  cases has <;> by_cases c1 : 0 ≤ lo <;> by_cases c2 : lo ≤ 16 <;> by_cases c3 : lo ≤ hi <;> by_cases c4 : hi ≤ 16 <;> simp [c1, c2, c3, c4]
theorem halves (w : World) (lo hi : Int) (has : Bool) (at_ v : Int) (a0 : 0 ≤ at_) (a1 : at_ < 18446744073709551616) (v0 : 0 ≤ v) (v1 : v < 18446744073709551616) :
    Calls Try.prog 3 #[.agg #[.int .i64 lo, .int .i64 hi, .bool has], .int .u64 at_, .int .u64 v] w fun e w' => e = .returned (.bool true) ∧ Below w.heap.size w w' := by
  have hm := may_f lo hi has
  obtain ⟨n, rfl⟩ := Int.eq_ofNat_of_zero_le a0
  by_cases h : 0 ≤ lo ∧ lo ≤ 16 ∧ (has = true → lo ≤ hi ∧ hi ≤ 16)
  · rw [decide_eq_true h] at hm
    by_cases hin : n + 8 ≤ (lo * 256).toNat
    · exact halves_in w lo hi has n v v0 v1 (by omega) hm h.1 h.2.1 h.2.2 _ rfl hin
    · exact halves_out w lo hi has n v (by omega) hm h.1 h.2.1 h.2.2 _ rfl hin
  · rw [decide_eq_false h] at hm
    exact halves_no w lo hi has n v hm
end Go.Proofs.Ytefihkcmlmapoaa.Mem
