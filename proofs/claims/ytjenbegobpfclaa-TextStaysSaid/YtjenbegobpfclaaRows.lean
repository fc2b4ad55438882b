/-
  No cell of these rows narrows 'for every input' (looked for: loops, veiled, ifaces, maps, wideKeys, modest, calm, conditions, laid).
  DERIVED. THE GIVEN ROWS OF THIS SEAT. 5 by the template 'for every input the law returns true; each argument reads behind the call as it read before'; 0 by the template 'total and deterministic' (their statements: YtjenbegobpfclaaTotals.lean).
  GIVEN WITH THE SEED: the statements are not yours to turn. If you find one false, say at which input.
  Laid BY PROGRAM, IN A SANDBOX (cutbox-rows.mjs): the forced cells as the released guide's own fill.sh prints them over the translation 622e4e1cf37a00b7… (all of the seat's roots in one cut). By AI agents, Wed Nov 11 2026. No macro, syntax, notation, axiom, sorry.
-/
import Derived.Test.YtjenbegobpfclaaChecked
import GoSem.Claim
import GoSem.ClaimJoined
import GoSem.ClaimMapViews
import Derived.JoinedTies
import Derived.KernelRfl
namespace Go.Proofs.Ytjenbegobpfclaa
/- THE CELL 'sum', in the pinned program and in every row, IS THE sha256 OF THE DUMP (.gsa) THAT YtjenbegobpfclaaProg.lean LOADS. Nothing in Lean hashes anything: it is a label: what it is worth is what the hold of that sum in a sandbox is worth. -/
noncomputable def Try.pinned : Pinned := { name := "ytjenbegobpfclaa", sum := "622e4e1cf37a00b731bb41a0ca0302ecfba4516fc5529250fd13b5847f796ddb", checked := Try.checked }
namespace Rows
def none {H : Type} : Left H := { results := [], args := [] }

/-- 'grommetlaw11.TextInts': WHATEVER THE INPUT: true; the input reads as it did. -/
def textIntsSpec : ChangeSpec := { name := "textInts", fn := fun _ => fun
  | [d1, d2] => { results := [.lit (.bool true)], args := [d1, d2] }
  | _ => none }
def textIntsRow : OpenClaim := { program := "ytjenbegobpfclaa", sum := "622e4e1cf37a00b731bb41a0ca0302ecfba4516fc5529250fd13b5847f796ddb", func := "grommet/grommetlaw11.TextInts", spec := "textInts", inPlace := ["internal/bytealg.IndexByteString", "internal/bytealg.IndexString", "math/bits.Add64"], named := ["internal/bytealg.MaxLen"], apart := false }
def TextIntsSaid : Prop := textIntsRow.holds Try.pinned (OpenSpec.ofChange textIntsSpec)

/-- ITS FALSE NEIGHBOUR: 'it returns false'. Refute it at one input. -/
def textIntsWrong : ChangeSpec := { name := "textInts", fn := fun _ => fun
  | [d1, d2] => { results := [.lit (.bool false)], args := [d1, d2] }
  | _ => none }
def TextIntsWrongFalsely : Prop := textIntsRow.holds Try.pinned (OpenSpec.ofChange textIntsWrong)

/-- 'grommetlaw11.TextMinus': WHATEVER THE INPUT: true; the input reads as it did. -/
def textMinusSpec : ChangeSpec := { name := "textMinus", fn := fun _ => fun
  | [d] => { results := [.lit (.bool true)], args := [d] }
  | _ => none }
def textMinusRow : OpenClaim := { program := "ytjenbegobpfclaa", sum := "622e4e1cf37a00b731bb41a0ca0302ecfba4516fc5529250fd13b5847f796ddb", func := "grommet/grommetlaw11.TextMinus", spec := "textMinus", inPlace := ["internal/bytealg.IndexByteString", "internal/bytealg.IndexString", "math/bits.Add64"], named := ["internal/bytealg.MaxLen"], apart := false }
def TextMinusSaid : Prop := textMinusRow.holds Try.pinned (OpenSpec.ofChange textMinusSpec)

/-- ITS FALSE NEIGHBOUR: 'it returns false'. Refute it at one input. -/
def textMinusWrong : ChangeSpec := { name := "textMinus", fn := fun _ => fun
  | [d] => { results := [.lit (.bool false)], args := [d] }
  | _ => none }
def TextMinusWrongFalsely : Prop := textMinusRow.holds Try.pinned (OpenSpec.ofChange textMinusWrong)

/-- 'grommetlaw11.TextQuotes': WHATEVER THE INPUT: true; the input reads as it did. -/
def textQuotesSpec : ChangeSpec := { name := "textQuotes", fn := fun _ => fun
  | [d] => { results := [.lit (.bool true)], args := [d] }
  | _ => none }
def textQuotesRow : OpenClaim := { program := "ytjenbegobpfclaa", sum := "622e4e1cf37a00b731bb41a0ca0302ecfba4516fc5529250fd13b5847f796ddb", func := "grommet/grommetlaw11.TextQuotes", spec := "textQuotes", inPlace := ["internal/bytealg.IndexByteString", "internal/bytealg.IndexString", "math/bits.Add64", "internal/abi.NoEscape"], named := ["internal/bytealg.MaxLen"], apart := false }
def TextQuotesSaid : Prop := textQuotesRow.holds Try.pinned (OpenSpec.ofChange textQuotesSpec)

/-- ITS FALSE NEIGHBOUR: 'it returns false'. Refute it at one input. -/
def textQuotesWrong : ChangeSpec := { name := "textQuotes", fn := fun _ => fun
  | [d] => { results := [.lit (.bool false)], args := [d] }
  | _ => none }
def TextQuotesWrongFalsely : Prop := textQuotesRow.holds Try.pinned (OpenSpec.ofChange textQuotesWrong)

/-- 'grommetlaw11.TextBack': WHATEVER THE INPUT: true; the input reads as it did. -/
def textBackSpec : ChangeSpec := { name := "textBack", fn := fun _ => fun
  | [d1, d2] => { results := [.lit (.bool true)], args := [d1, d2] }
  | _ => none }
def textBackRow : OpenClaim := { program := "ytjenbegobpfclaa", sum := "622e4e1cf37a00b731bb41a0ca0302ecfba4516fc5529250fd13b5847f796ddb", func := "grommet/grommetlaw11.TextBack", spec := "textBack", inPlace := ["internal/bytealg.IndexByteString", "internal/bytealg.IndexString", "math/bits.Add64", "internal/abi.NoEscape"], named := ["internal/bytealg.MaxLen"], apart := false }
def TextBackSaid : Prop := textBackRow.holds Try.pinned (OpenSpec.ofChange textBackSpec)

/-- ITS FALSE NEIGHBOUR: 'it returns false'. Refute it at one input. -/
def textBackWrong : ChangeSpec := { name := "textBack", fn := fun _ => fun
  | [d1, d2] => { results := [.lit (.bool false)], args := [d1, d2] }
  | _ => none }
def TextBackWrongFalsely : Prop := textBackRow.holds Try.pinned (OpenSpec.ofChange textBackWrong)

/-- 'grommetlaw11.TextStays': WHATEVER THE INPUT: true; the input reads as it did. -/
def textStaysSpec : ChangeSpec := { name := "textStays", fn := fun _ => fun
  | [d1, d2] => { results := [.lit (.bool true)], args := [d1, d2] }
  | _ => none }
def textStaysRow : OpenClaim := { program := "ytjenbegobpfclaa", sum := "622e4e1cf37a00b731bb41a0ca0302ecfba4516fc5529250fd13b5847f796ddb", func := "grommet/grommetlaw11.TextStays", spec := "textStays", inPlace := ["internal/bytealg.IndexByteString", "internal/bytealg.IndexString", "math/bits.Add64", "internal/abi.NoEscape"], named := ["internal/bytealg.MaxLen"], apart := false }
def TextStaysSaid : Prop := textStaysRow.holds Try.pinned (OpenSpec.ofChange textStaysSpec)

/-- ITS FALSE NEIGHBOUR: 'it returns false'. Refute it at one input. -/
def textStaysWrong : ChangeSpec := { name := "textStays", fn := fun _ => fun
  | [d1, d2] => { results := [.lit (.bool false)], args := [d1, d2] }
  | _ => none }
def TextStaysWrongFalsely : Prop := textStaysRow.holds Try.pinned (OpenSpec.ofChange textStaysWrong)

/- THE SECOND FORM. 'bulk': how many values and letters a reading holds, each counted each time it is reached (what is shared counts as often as it is met; a slice's spare places count too). A statement '..UptoSaid' is the law's where the arguments, and the package variables that the reading takes, are together of bulk at most 1048576: NARROWER than '..Said'. Prove '..Said' where nothing that the law and all that it calls make is longer than what came in: it says more and counts as full. Else prove '..UptoSaid'. A law counts once. -/
mutual
def uptoBulk {H : Type} : DataW H → Nat
  | .lit (.string bytes) => bytes.length + 1
  | .lit _ => 1
  | .nil => 1
  | .ptr d => uptoBulk d + 1
  | .slice elems spare => uptoBulkAll elems + uptoBulkAll spare + 1
  | .agg parts => uptoBulkAll parts + 1
  | .iface _ d => uptoBulk d + 1
  | .map entries => uptoBulkEntries entries + 1
  | .held _ => 1
def uptoBulkAll {H : Type} : List (DataW H) → Nat
  | [] => 0
  | d :: r => uptoBulk d + uptoBulkAll r
def uptoBulkEntries {H : Type} : List (Lit × DataW H) → Nat
  | [] => 0
  | x :: r => uptoBulkEntry x + uptoBulkEntries r
def uptoBulkEntry {H : Type} : Lit × DataW H → Nat
  | (.string bytes, d) => bytes.length + uptoBulk d + 1
  | (_, d) => uptoBulk d + 1
 end
def uptoSmall : (H : Type) → List (DataW H) → Bool := fun _ ds => decide (uptoBulkAll ds ≤ 1048576)
def OpenSpec.upto (s : _root_.Go.ChangeSpec) : _root_.Go.OpenSpec := { _root_.Go.OpenSpec.ofChange s with cond := some uptoSmall }

/-- 'grommetlaw11.TextInts', WHERE WHAT IT READS IS OF BULK AT MOST 1048576: true; the input reads as it did. -/
def textIntsUptoRow : OpenClaim := { program := "ytjenbegobpfclaa", sum := "622e4e1cf37a00b731bb41a0ca0302ecfba4516fc5529250fd13b5847f796ddb", func := "grommet/grommetlaw11.TextInts", spec := "textInts", inPlace := ["internal/bytealg.IndexByteString", "internal/bytealg.IndexString", "math/bits.Add64"], named := ["internal/bytealg.MaxLen"], apart := false, narrowed := true }
def TextIntsUptoSaid : Prop := textIntsUptoRow.holds Try.pinned (OpenSpec.upto textIntsSpec)

/-- 'grommetlaw11.TextMinus', WHERE WHAT IT READS IS OF BULK AT MOST 1048576: true; the input reads as it did. -/
def textMinusUptoRow : OpenClaim := { program := "ytjenbegobpfclaa", sum := "622e4e1cf37a00b731bb41a0ca0302ecfba4516fc5529250fd13b5847f796ddb", func := "grommet/grommetlaw11.TextMinus", spec := "textMinus", inPlace := ["internal/bytealg.IndexByteString", "internal/bytealg.IndexString", "math/bits.Add64"], named := ["internal/bytealg.MaxLen"], apart := false, narrowed := true }
def TextMinusUptoSaid : Prop := textMinusUptoRow.holds Try.pinned (OpenSpec.upto textMinusSpec)

/-- 'grommetlaw11.TextQuotes', WHERE WHAT IT READS IS OF BULK AT MOST 1048576: true; the input reads as it did. -/
def textQuotesUptoRow : OpenClaim := { program := "ytjenbegobpfclaa", sum := "622e4e1cf37a00b731bb41a0ca0302ecfba4516fc5529250fd13b5847f796ddb", func := "grommet/grommetlaw11.TextQuotes", spec := "textQuotes", inPlace := ["internal/bytealg.IndexByteString", "internal/bytealg.IndexString", "math/bits.Add64", "internal/abi.NoEscape"], named := ["internal/bytealg.MaxLen"], apart := false, narrowed := true }
def TextQuotesUptoSaid : Prop := textQuotesUptoRow.holds Try.pinned (OpenSpec.upto textQuotesSpec)

/-- 'grommetlaw11.TextBack', WHERE WHAT IT READS IS OF BULK AT MOST 1048576: true; the input reads as it did. -/
def textBackUptoRow : OpenClaim := { program := "ytjenbegobpfclaa", sum := "622e4e1cf37a00b731bb41a0ca0302ecfba4516fc5529250fd13b5847f796ddb", func := "grommet/grommetlaw11.TextBack", spec := "textBack", inPlace := ["internal/bytealg.IndexByteString", "internal/bytealg.IndexString", "math/bits.Add64", "internal/abi.NoEscape"], named := ["internal/bytealg.MaxLen"], apart := false, narrowed := true }
def TextBackUptoSaid : Prop := textBackUptoRow.holds Try.pinned (OpenSpec.upto textBackSpec)

/-- 'grommetlaw11.TextStays', WHERE WHAT IT READS IS OF BULK AT MOST 1048576: true; the input reads as it did. -/
def textStaysUptoRow : OpenClaim := { program := "ytjenbegobpfclaa", sum := "622e4e1cf37a00b731bb41a0ca0302ecfba4516fc5529250fd13b5847f796ddb", func := "grommet/grommetlaw11.TextStays", spec := "textStays", inPlace := ["internal/bytealg.IndexByteString", "internal/bytealg.IndexString", "math/bits.Add64", "internal/abi.NoEscape"], named := ["internal/bytealg.MaxLen"], apart := false, narrowed := true }
def TextStaysUptoSaid : Prop := textStaysUptoRow.holds Try.pinned (OpenSpec.upto textStaysSpec)

end Rows
end Go.Proofs.Ytjenbegobpfclaa
