/- The plain law of NamePuts: what Put writes is the document's, or there is no such character. -/
import Derived.Test.YtagaihiemomelaaDoorNm2
namespace Go.Proofs.YtagaihiemomelaaDoor.Pure
open Go.RowKit Go.Proofs.YtagaihiemomelaaDoor.RNamePuts Go.Proofs.YtagaihiemomelaaDoorW.PrintWords Go.Proofs.YtagaihiemomelaaDoorW.PrintLast
theorem NamePuts : grommetlaw02_NamePuts.Pure := by
  intro c hc
  cases h : Nm.isChar c with
  | true =>
    refine ⟨4, ?_⟩
    unfold grommetlaw02_NamePuts.f
    rw [show Man.grommetlaw02_up.f = some true from rfl, Nm.put_f c h, Nm.rchar_f, h, Nm.rput_f c h]
    simp
  | false =>
    refine ⟨4, ?_⟩
    unfold grommetlaw02_NamePuts.f
    rw [show Man.grommetlaw02_up.f = some true from rfl, Nm.put_no 4 c h, Nm.rchar_f, h]
    simp
end Go.Proofs.YtagaihiemomelaaDoor.Pure
