import Derived.Test.YtbelijoggbblgaaSt9
import Derived.Test.YtbelijoggbblgaaSt10
import Derived.Test.YtbelijoggbblgaaSt11
namespace Go.Proofs.Ytbelijoggbblgaa.St
open Go.RowKit Go.Proofs.YtbelijoggbblgaaW.PrintWords
theorem stays (W : World) (S : Option Addr) (ns cs : Nat) (hns : ns ≤ cs) (hcs : cs ≤ 9223372036854775807) (sc : Script W S ns) (A : Option Addr) (c : Nat) (xs : List Int) (hx : I64.C W A xs.length xs) (hc : xs.length ≤ c) (B : Option Addr) (d : Nat) (ys : List Int) (hy : I64.C W B ys.length ys) (hd : ys.length ≤ d) (n : Int) :
    Calls Try.prog 3 #[.slice S ns cs, .agg #[.slice A xs.length c, .slice B ys.length d], .int .i64 n] W fun e w' => e = .returned (.bool true) ∧ Below W.heap.size W w' := by
  by_cases h1 : xs.length ≤ 300
  · by_cases h2 : ys.length ≤ 300
    · exact stays_in W S ns cs hns hcs sc A c xs hx hc B d ys hy hd n h1 h2
    · exact stays_out W S ns cs A xs.length c B ys.length d n (Or.inr (by omega))
  · exact stays_out W S ns cs A xs.length c B ys.length d n (Or.inl (by omega))
end Go.Proofs.Ytbelijoggbblgaa.St
