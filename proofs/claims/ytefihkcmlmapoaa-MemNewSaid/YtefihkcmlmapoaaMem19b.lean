import Derived.Test.YtefihkcmlmapoaaMem19
namespace Go.Proofs.Ytefihkcmlmapoaa.Mem
open Go.RowKit
theorem memnew (w : World) (lo hi : Int) (has : Bool) :
    Calls Try.prog 4 #[.agg #[.int .i64 lo, .int .i64 hi, .bool has]] w fun e w' => e = .returned (.bool true) ∧ Below w.heap.size w w' := by
  by_cases h : may lo hi has
  · exact memnew_yes w lo hi has h
  · exact memnew_no w lo hi has h
end Go.Proofs.Ytefihkcmlmapoaa.Mem
