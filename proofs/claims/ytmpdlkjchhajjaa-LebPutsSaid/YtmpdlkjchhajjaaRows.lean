/-
  No cell of these rows narrows 'for every input' (looked for: loops, veiled, ifaces, maps, wideKeys, modest, calm, conditions, laid).
  DERIVED. THE GIVEN ROWS OF THIS SEAT. 6 by the template 'for every input the law returns true; each argument reads behind the call as it read before'; 0 by the template 'total and deterministic' (their statements: YtmpdlkjchhajjaaTotals.lean).
  GIVEN WITH THE SEED: the statements are not yours to turn. If you find one false, say at which input.
  Laid BY PROGRAM, IN A SANDBOX (cutbox-rows.mjs): the forced cells as the released guide's own fill.sh prints them over the translation 76c8cda0de659ab6… (all of the seat's roots in one cut). By AI agents, Wed Nov 11 2026. No macro, syntax, notation, axiom, sorry.
-/
import Derived.Test.YtmpdlkjchhajjaaChecked
import GoSem.Claim
import GoSem.ClaimJoined
import GoSem.ClaimMapViews
import Derived.JoinedTies
import Derived.KernelRfl
namespace Go.Proofs.Ytmpdlkjchhajjaa
/- THE CELL 'sum', in the pinned program and in every row, IS THE sha256 OF THE DUMP (.gsa) THAT YtmpdlkjchhajjaaProg.lean LOADS. Nothing in Lean hashes anything: it is a label: what it is worth is what the hold of that sum in a sandbox is worth. -/
noncomputable def Try.pinned : Pinned := { name := "ytmpdlkjchhajjaa", sum := "76c8cda0de659ab6e57dd09272b2f9f3f294057b3a505b9c6dfa396b8d2f41e1", checked := Try.checked }
namespace Rows
def none {H : Type} : Left H := { results := [], args := [] }

/-- 'grommetlaw01.LebReads': WHATEVER THE INPUT: true; the input reads as it did. -/
def lebReadsSpec : ChangeSpec := { name := "lebReads", fn := fun _ => fun
  | [d1, d2, d3] => { results := [.lit (.bool true)], args := [d1, d2, d3] }
  | _ => none }
def lebReadsRow : OpenClaim := { program := "ytmpdlkjchhajjaa", sum := "76c8cda0de659ab6e57dd09272b2f9f3f294057b3a505b9c6dfa396b8d2f41e1", func := "grommet/grommetlaw01.LebReads", spec := "lebReads", apart := false }
def LebReadsSaid : Prop := lebReadsRow.holds Try.pinned (OpenSpec.ofChange lebReadsSpec)

/-- ITS FALSE NEIGHBOUR: 'it returns false'. Refute it at one input. -/
def lebReadsWrong : ChangeSpec := { name := "lebReads", fn := fun _ => fun
  | [d1, d2, d3] => { results := [.lit (.bool false)], args := [d1, d2, d3] }
  | _ => none }
def LebReadsWrongFalsely : Prop := lebReadsRow.holds Try.pinned (OpenSpec.ofChange lebReadsWrong)

/-- 'grommetlaw01.LebBack': WHATEVER THE INPUT: true; the input reads as it did. -/
def lebBackSpec : ChangeSpec := { name := "lebBack", fn := fun _ => fun
  | [d1, d2, d3, d4, d5] => { results := [.lit (.bool true)], args := [d1, d2, d3, d4, d5] }
  | _ => none }
def lebBackRow : OpenClaim := { program := "ytmpdlkjchhajjaa", sum := "76c8cda0de659ab6e57dd09272b2f9f3f294057b3a505b9c6dfa396b8d2f41e1", func := "grommet/grommetlaw01.LebBack", spec := "lebBack", apart := false }
def LebBackSaid : Prop := lebBackRow.holds Try.pinned (OpenSpec.ofChange lebBackSpec)

/-- ITS FALSE NEIGHBOUR: 'it returns false'. Refute it at one input. -/
def lebBackWrong : ChangeSpec := { name := "lebBack", fn := fun _ => fun
  | [d1, d2, d3, d4, d5] => { results := [.lit (.bool false)], args := [d1, d2, d3, d4, d5] }
  | _ => none }
def LebBackWrongFalsely : Prop := lebBackRow.holds Try.pinned (OpenSpec.ofChange lebBackWrong)

/-- 'grommetlaw01.LebBits': WHATEVER THE INPUT: true; the input reads as it did. -/
def lebBitsSpec : ChangeSpec := { name := "lebBits", fn := fun _ => fun
  | [d1, d2, d3] => { results := [.lit (.bool true)], args := [d1, d2, d3] }
  | _ => none }
def lebBitsRow : OpenClaim := { program := "ytmpdlkjchhajjaa", sum := "76c8cda0de659ab6e57dd09272b2f9f3f294057b3a505b9c6dfa396b8d2f41e1", func := "grommet/grommetlaw01.LebBits", spec := "lebBits", apart := false }
def LebBitsSaid : Prop := lebBitsRow.holds Try.pinned (OpenSpec.ofChange lebBitsSpec)

/-- ITS FALSE NEIGHBOUR: 'it returns false'. Refute it at one input. -/
def lebBitsWrong : ChangeSpec := { name := "lebBits", fn := fun _ => fun
  | [d1, d2, d3] => { results := [.lit (.bool false)], args := [d1, d2, d3] }
  | _ => none }
def LebBitsWrongFalsely : Prop := lebBitsRow.holds Try.pinned (OpenSpec.ofChange lebBitsWrong)

/-- 'grommetlaw01.LebStays': WHATEVER THE INPUT: true; the input reads as it did. -/
def lebStaysSpec : ChangeSpec := { name := "lebStays", fn := fun _ => fun
  | [d1, d2, d3] => { results := [.lit (.bool true)], args := [d1, d2, d3] }
  | _ => none }
def lebStaysRow : OpenClaim := { program := "ytmpdlkjchhajjaa", sum := "76c8cda0de659ab6e57dd09272b2f9f3f294057b3a505b9c6dfa396b8d2f41e1", func := "grommet/grommetlaw01.LebStays", spec := "lebStays", apart := false }
def LebStaysSaid : Prop := lebStaysRow.holds Try.pinned (OpenSpec.ofChange lebStaysSpec)

/-- ITS FALSE NEIGHBOUR: 'it returns false'. Refute it at one input. -/
def lebStaysWrong : ChangeSpec := { name := "lebStays", fn := fun _ => fun
  | [d1, d2, d3] => { results := [.lit (.bool false)], args := [d1, d2, d3] }
  | _ => none }
def LebStaysWrongFalsely : Prop := lebStaysRow.holds Try.pinned (OpenSpec.ofChange lebStaysWrong)

/-- 'grommetlaw01.LebPads': WHATEVER THE INPUT: true; the input reads as it did. -/
def lebPadsSpec : ChangeSpec := { name := "lebPads", fn := fun _ => fun
  | [d] => { results := [.lit (.bool true)], args := [d] }
  | _ => none }
def lebPadsRow : OpenClaim := { program := "ytmpdlkjchhajjaa", sum := "76c8cda0de659ab6e57dd09272b2f9f3f294057b3a505b9c6dfa396b8d2f41e1", func := "grommet/grommetlaw01.LebPads", spec := "lebPads", apart := false }
def LebPadsSaid : Prop := lebPadsRow.holds Try.pinned (OpenSpec.ofChange lebPadsSpec)

/-- ITS FALSE NEIGHBOUR: 'it returns false'. Refute it at one input. -/
def lebPadsWrong : ChangeSpec := { name := "lebPads", fn := fun _ => fun
  | [d] => { results := [.lit (.bool false)], args := [d] }
  | _ => none }
def LebPadsWrongFalsely : Prop := lebPadsRow.holds Try.pinned (OpenSpec.ofChange lebPadsWrong)

/-- 'grommetlaw01.LebPuts': WHATEVER THE INPUT: true; the input reads as it did. -/
def lebPutsSpec : ChangeSpec := { name := "lebPuts", fn := fun _ => fun
  | [d] => { results := [.lit (.bool true)], args := [d] }
  | _ => none }
def lebPutsRow : OpenClaim := { program := "ytmpdlkjchhajjaa", sum := "76c8cda0de659ab6e57dd09272b2f9f3f294057b3a505b9c6dfa396b8d2f41e1", func := "grommet/grommetlaw01.LebPuts", spec := "lebPuts", apart := false }
def LebPutsSaid : Prop := lebPutsRow.holds Try.pinned (OpenSpec.ofChange lebPutsSpec)

/-- ITS FALSE NEIGHBOUR: 'it returns false'. Refute it at one input. -/
def lebPutsWrong : ChangeSpec := { name := "lebPuts", fn := fun _ => fun
  | [d] => { results := [.lit (.bool false)], args := [d] }
  | _ => none }
def LebPutsWrongFalsely : Prop := lebPutsRow.holds Try.pinned (OpenSpec.ofChange lebPutsWrong)

/- THE SECOND FORM. 'bulk': how many values and letters a reading holds, each counted each time it is reached (what is shared counts as often as it is met; a slice's spare places count too). A statement '..UptoSaid' is the law's where the arguments, and the package variables that the reading takes, are together of bulk at most 1048576: NARROWER than '..Said'. Prove '..Said' where nothing that the law and all that it calls make is longer than what came in: it says more and counts as full. Else prove '..UptoSaid'. A law counts once. -/
mutual
def uptoBulk {H : Type} : DataW H → Nat
  | .lit (.string bytes) => bytes.length + 1
  | .lit _ => 1
  | .nil => 1
  | .ptr d => uptoBulk d + 1
  | .slice elems spare => uptoBulkAll elems + uptoBulkAll spare + 1
  | .agg parts => uptoBulkAll parts + 1
  | .iface _ d => uptoBulk d + 1
  | .map entries => uptoBulkEntries entries + 1
  | .held _ => 1
def uptoBulkAll {H : Type} : List (DataW H) → Nat
  | [] => 0
  | d :: r => uptoBulk d + uptoBulkAll r
def uptoBulkEntries {H : Type} : List (Lit × DataW H) → Nat
  | [] => 0
  | x :: r => uptoBulkEntry x + uptoBulkEntries r
def uptoBulkEntry {H : Type} : Lit × DataW H → Nat
  | (.string bytes, d) => bytes.length + uptoBulk d + 1
  | (_, d) => uptoBulk d + 1
 end
def uptoSmall : (H : Type) → List (DataW H) → Bool := fun _ ds => decide (uptoBulkAll ds ≤ 1048576)
def OpenSpec.upto (s : _root_.Go.ChangeSpec) : _root_.Go.OpenSpec := { _root_.Go.OpenSpec.ofChange s with cond := some uptoSmall }

/-- 'grommetlaw01.LebReads', WHERE WHAT IT READS IS OF BULK AT MOST 1048576: true; the input reads as it did. -/
def lebReadsUptoRow : OpenClaim := { program := "ytmpdlkjchhajjaa", sum := "76c8cda0de659ab6e57dd09272b2f9f3f294057b3a505b9c6dfa396b8d2f41e1", func := "grommet/grommetlaw01.LebReads", spec := "lebReads", apart := false, narrowed := true }
def LebReadsUptoSaid : Prop := lebReadsUptoRow.holds Try.pinned (OpenSpec.upto lebReadsSpec)

/-- 'grommetlaw01.LebBack', WHERE WHAT IT READS IS OF BULK AT MOST 1048576: true; the input reads as it did. -/
def lebBackUptoRow : OpenClaim := { program := "ytmpdlkjchhajjaa", sum := "76c8cda0de659ab6e57dd09272b2f9f3f294057b3a505b9c6dfa396b8d2f41e1", func := "grommet/grommetlaw01.LebBack", spec := "lebBack", apart := false, narrowed := true }
def LebBackUptoSaid : Prop := lebBackUptoRow.holds Try.pinned (OpenSpec.upto lebBackSpec)

/-- 'grommetlaw01.LebBits', WHERE WHAT IT READS IS OF BULK AT MOST 1048576: true; the input reads as it did. -/
def lebBitsUptoRow : OpenClaim := { program := "ytmpdlkjchhajjaa", sum := "76c8cda0de659ab6e57dd09272b2f9f3f294057b3a505b9c6dfa396b8d2f41e1", func := "grommet/grommetlaw01.LebBits", spec := "lebBits", apart := false, narrowed := true }
def LebBitsUptoSaid : Prop := lebBitsUptoRow.holds Try.pinned (OpenSpec.upto lebBitsSpec)

/-- 'grommetlaw01.LebStays', WHERE WHAT IT READS IS OF BULK AT MOST 1048576: true; the input reads as it did. -/
def lebStaysUptoRow : OpenClaim := { program := "ytmpdlkjchhajjaa", sum := "76c8cda0de659ab6e57dd09272b2f9f3f294057b3a505b9c6dfa396b8d2f41e1", func := "grommet/grommetlaw01.LebStays", spec := "lebStays", apart := false, narrowed := true }
def LebStaysUptoSaid : Prop := lebStaysUptoRow.holds Try.pinned (OpenSpec.upto lebStaysSpec)

/-- 'grommetlaw01.LebPads', WHERE WHAT IT READS IS OF BULK AT MOST 1048576: true; the input reads as it did. -/
def lebPadsUptoRow : OpenClaim := { program := "ytmpdlkjchhajjaa", sum := "76c8cda0de659ab6e57dd09272b2f9f3f294057b3a505b9c6dfa396b8d2f41e1", func := "grommet/grommetlaw01.LebPads", spec := "lebPads", apart := false, narrowed := true }
def LebPadsUptoSaid : Prop := lebPadsUptoRow.holds Try.pinned (OpenSpec.upto lebPadsSpec)

/-- 'grommetlaw01.LebPuts', WHERE WHAT IT READS IS OF BULK AT MOST 1048576: true; the input reads as it did. -/
def lebPutsUptoRow : OpenClaim := { program := "ytmpdlkjchhajjaa", sum := "76c8cda0de659ab6e57dd09272b2f9f3f294057b3a505b9c6dfa396b8d2f41e1", func := "grommet/grommetlaw01.LebPuts", spec := "lebPuts", apart := false, narrowed := true }
def LebPutsUptoSaid : Prop := lebPutsUptoRow.holds Try.pinned (OpenSpec.upto lebPutsSpec)

end Rows
end Go.Proofs.Ytmpdlkjchhajjaa
