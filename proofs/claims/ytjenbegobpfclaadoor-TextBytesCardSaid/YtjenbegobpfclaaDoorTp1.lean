/- Numbers: what text.Int and the document's Int answer, in plain words. -/
import Derived.Test.YtjenbegobpfclaaDoorTp0
set_option linter.unusedVariables false
set_option linter.unusedSimpArgs false
namespace Go.Proofs.YtjenbegobpfclaaDoor.Tp
open Go.RowKit Go.Proofs.YtjenbegobpfclaaDoor.Man Go.Proofs.YtjenbegobpfclaaDoorW.PrintWords Go.Proofs.YtjenbegobpfclaaDoorW.PrintLast Go.Proofs.YtjenbegobpfclaaDoorW.PrintMore Go.Proofs.YtjenbegobpfclaaDoor.RTextBytes
theorem bt_list (s : ByteArray) (i : Nat) (h : i < s.data.toList.length) : bt s (i : Int) = ((s.data.toList[i]).toNat : Int) := by
  have h2 : i < s.size := by rw [Lib.size_eq]; exact h
  rw [← bt_at s (i : Int) h2]
  rfl
theorem u8_int (x y : UInt8) : ((x.toNat : Int) = (y.toNat : Int)) ↔ x = y := by
  constructor
  · intro h; exact UInt8.toNat_inj.1 (by omega)
  · intro h; rw [h]
theorem size_nil {t : ByteArray} (h : t.toList = []) : t.size = 0 := by
  rw [Lib.toList_data] at h
  rw [Lib.size_eq, h]; rfl
theorem nil_size {t : ByteArray} (h : ¬ t.toList = []) : 0 < t.size := by
  rw [Lib.toList_data] at h
  rw [Lib.size_eq]
  exact List.length_pos_iff.2 h
end Go.Proofs.YtjenbegobpfclaaDoor.Tp
