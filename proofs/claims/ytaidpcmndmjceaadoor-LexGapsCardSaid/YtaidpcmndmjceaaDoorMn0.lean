/- strings.IndexByte by a contract in the printed texts' form (the shelf's, laid at this program). -/
import Derived.Test.YtaidpcmndmjceaaDoorShelf
import Derived.Test.YtaidpcmndmjceaaDoorWMore
set_option linter.unusedVariables false
namespace Go.Proofs.YtaidpcmndmjceaaDoor.Man
open Go.RowKit Go.Proofs.YtaidpcmndmjceaaDoorW.PrintWords
def strings_IndexByte.f (a0 : ByteArray) (a1 : Int) : Option Int := some (Lib.indexByte a0.data.toList a1.toNat.toUInt8)
theorem strings_IndexByte.calls (a0 : ByteArray) (a1 : Int) (r : Int) (w : World) (h : strings_IndexByte.f a0 a1 = some r) :
    Calls Tryd.prog 22 #[.string a0, .int .u8 a1] w fun e w' => e = .returned (.int .i64 r) ∧ Drawn0 w w' := by
  obtain rfl := Option.some.inj h
  exact (Go.Proofs.Tryd.strings_IndexByte a0 a1 w).mono fun e w' ⟨he, hw⟩ => ⟨he, by subst hw; exact Drawn0.refl _⟩
end Go.Proofs.YtaidpcmndmjceaaDoor.Man
