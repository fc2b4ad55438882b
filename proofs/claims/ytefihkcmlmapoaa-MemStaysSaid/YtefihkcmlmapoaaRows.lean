/-
  No cell of these rows narrows 'for every input' (looked for: loops, veiled, ifaces, maps, wideKeys, modest, calm, conditions, laid).
  DERIVED. THE GIVEN ROWS OF THIS SEAT. 5 by the template 'for every input the law returns true; each argument reads behind the call as it read before'; 0 by the template 'total and deterministic' (their statements: YtefihkcmlmapoaaTotals.lean).
  GIVEN WITH THE SEED: the statements are not yours to turn. If you find one false, say at which input.
  Laid BY PROGRAM, IN A SANDBOX (cutbox-rows.mjs): the forced cells as the released guide's own fill.sh prints them over the translation 32b444cdf9e02483… (all of the seat's roots in one cut). By AI agents, Wed Nov 11 2026. No macro, syntax, notation, axiom, sorry.
-/
import Derived.Test.YtefihkcmlmapoaaChecked
import GoSem.Claim
import GoSem.ClaimJoined
import GoSem.ClaimMapViews
import Derived.JoinedTies
import Derived.KernelRfl
namespace Go.Proofs.Ytefihkcmlmapoaa
/- THE CELL 'sum', in the pinned program and in every row, IS THE sha256 OF THE DUMP (.gsa) THAT YtefihkcmlmapoaaProg.lean LOADS. Nothing in Lean hashes anything: it is a label: what it is worth is what the hold of that sum in a sandbox is worth. -/
noncomputable def Try.pinned : Pinned := { name := "ytefihkcmlmapoaa", sum := "32b444cdf9e024833c36fcd8819a3d014c5846837ab99c9caed176678f88d494", checked := Try.checked }
namespace Rows
def none {H : Type} : Left H := { results := [], args := [] }

/-- 'grommetlaw15.MemHalves': WHATEVER THE INPUT: true; the input reads as it did. -/
def memHalvesSpec : ChangeSpec := { name := "memHalves", fn := fun _ => fun
  | [d1, d2, d3] => { results := [.lit (.bool true)], args := [d1, d2, d3] }
  | _ => none }
def memHalvesRow : OpenClaim := { program := "ytefihkcmlmapoaa", sum := "32b444cdf9e024833c36fcd8819a3d014c5846837ab99c9caed176678f88d494", func := "grommet/grommetlaw15.MemHalves", spec := "memHalves", apart := false }
def MemHalvesSaid : Prop := memHalvesRow.holds Try.pinned (OpenSpec.ofChange memHalvesSpec)

/-- ITS FALSE NEIGHBOUR: 'it returns false'. Refute it at one input. -/
def memHalvesWrong : ChangeSpec := { name := "memHalves", fn := fun _ => fun
  | [d1, d2, d3] => { results := [.lit (.bool false)], args := [d1, d2, d3] }
  | _ => none }
def MemHalvesWrongFalsely : Prop := memHalvesRow.holds Try.pinned (OpenSpec.ofChange memHalvesWrong)

/-- 'grommetlaw15.MemNew': WHATEVER THE INPUT: true; the input reads as it did. -/
def memNewSpec : ChangeSpec := { name := "memNew", fn := fun _ => fun
  | [d] => { results := [.lit (.bool true)], args := [d] }
  | _ => none }
def memNewRow : OpenClaim := { program := "ytefihkcmlmapoaa", sum := "32b444cdf9e024833c36fcd8819a3d014c5846837ab99c9caed176678f88d494", func := "grommet/grommetlaw15.MemNew", spec := "memNew", apart := false }
def MemNewSaid : Prop := memNewRow.holds Try.pinned (OpenSpec.ofChange memNewSpec)

/-- ITS FALSE NEIGHBOUR: 'it returns false'. Refute it at one input. -/
def memNewWrong : ChangeSpec := { name := "memNew", fn := fun _ => fun
  | [d] => { results := [.lit (.bool false)], args := [d] }
  | _ => none }
def MemNewWrongFalsely : Prop := memNewRow.holds Try.pinned (OpenSpec.ofChange memNewWrong)

/-- 'grommetlaw15.MemKeeps': WHATEVER THE INPUT: true; the input reads as it did. -/
def memKeepsSpec : ChangeSpec := { name := "memKeeps", fn := fun _ => fun
  | [d1, d2, d3, d4, d5] => { results := [.lit (.bool true)], args := [d1, d2, d3, d4, d5] }
  | _ => none }
def memKeepsRow : OpenClaim := { program := "ytefihkcmlmapoaa", sum := "32b444cdf9e024833c36fcd8819a3d014c5846837ab99c9caed176678f88d494", func := "grommet/grommetlaw15.MemKeeps", spec := "memKeeps", apart := false }
def MemKeepsSaid : Prop := memKeepsRow.holds Try.pinned (OpenSpec.ofChange memKeepsSpec)

/-- ITS FALSE NEIGHBOUR: 'it returns false'. Refute it at one input. -/
def memKeepsWrong : ChangeSpec := { name := "memKeeps", fn := fun _ => fun
  | [d1, d2, d3, d4, d5] => { results := [.lit (.bool false)], args := [d1, d2, d3, d4, d5] }
  | _ => none }
def MemKeepsWrongFalsely : Prop := memKeepsRow.holds Try.pinned (OpenSpec.ofChange memKeepsWrong)

/-- 'grommetlaw15.MemPlays': WHATEVER THE INPUT: true; the input reads as it did. -/
def memPlaysSpec : ChangeSpec := { name := "memPlays", fn := fun _ => fun
  | [d1, d2] => { results := [.lit (.bool true)], args := [d1, d2] }
  | _ => none }
def memPlaysRow : OpenClaim := { program := "ytefihkcmlmapoaa", sum := "32b444cdf9e024833c36fcd8819a3d014c5846837ab99c9caed176678f88d494", func := "grommet/grommetlaw15.MemPlays", spec := "memPlays", apart := false }
def MemPlaysSaid : Prop := memPlaysRow.holds Try.pinned (OpenSpec.ofChange memPlaysSpec)

/-- ITS FALSE NEIGHBOUR: 'it returns false'. Refute it at one input. -/
def memPlaysWrong : ChangeSpec := { name := "memPlays", fn := fun _ => fun
  | [d1, d2] => { results := [.lit (.bool false)], args := [d1, d2] }
  | _ => none }
def MemPlaysWrongFalsely : Prop := memPlaysRow.holds Try.pinned (OpenSpec.ofChange memPlaysWrong)

/-- 'grommetlaw15.MemStays': WHATEVER THE INPUT: true; the input reads as it did. -/
def memStaysSpec : ChangeSpec := { name := "memStays", fn := fun _ => fun
  | [d1, d2, d3] => { results := [.lit (.bool true)], args := [d1, d2, d3] }
  | _ => none }
def memStaysRow : OpenClaim := { program := "ytefihkcmlmapoaa", sum := "32b444cdf9e024833c36fcd8819a3d014c5846837ab99c9caed176678f88d494", func := "grommet/grommetlaw15.MemStays", spec := "memStays", apart := false }
def MemStaysSaid : Prop := memStaysRow.holds Try.pinned (OpenSpec.ofChange memStaysSpec)

/-- ITS FALSE NEIGHBOUR: 'it returns false'. Refute it at one input. -/
def memStaysWrong : ChangeSpec := { name := "memStays", fn := fun _ => fun
  | [d1, d2, d3] => { results := [.lit (.bool false)], args := [d1, d2, d3] }
  | _ => none }
def MemStaysWrongFalsely : Prop := memStaysRow.holds Try.pinned (OpenSpec.ofChange memStaysWrong)

/- THE SECOND FORM. 'bulk': how many values and letters a reading holds, each counted each time it is reached (what is shared counts as often as it is met; a slice's spare places count too). A statement '..UptoSaid' is the law's where the arguments, and the package variables that the reading takes, are together of bulk at most 1048576: NARROWER than '..Said'. Prove '..Said' where nothing that the law and all that it calls make is longer than what came in: it says more and counts as full. Else prove '..UptoSaid'. A law counts once. -/
mutual
def uptoBulk {H : Type} : DataW H → Nat
  | .lit (.string bytes) => bytes.length + 1
  | .lit _ => 1
  | .nil => 1
  | .ptr d => uptoBulk d + 1
  | .slice elems spare => uptoBulkAll elems + uptoBulkAll spare + 1
  | .agg parts => uptoBulkAll parts + 1
  | .iface _ d => uptoBulk d + 1
  | .map entries => uptoBulkEntries entries + 1
  | .held _ => 1
def uptoBulkAll {H : Type} : List (DataW H) → Nat
  | [] => 0
  | d :: r => uptoBulk d + uptoBulkAll r
def uptoBulkEntries {H : Type} : List (Lit × DataW H) → Nat
  | [] => 0
  | x :: r => uptoBulkEntry x + uptoBulkEntries r
def uptoBulkEntry {H : Type} : Lit × DataW H → Nat
  | (.string bytes, d) => bytes.length + uptoBulk d + 1
  | (_, d) => uptoBulk d + 1
 end
def uptoSmall : (H : Type) → List (DataW H) → Bool := fun _ ds => decide (uptoBulkAll ds ≤ 1048576)
def OpenSpec.upto (s : _root_.Go.ChangeSpec) : _root_.Go.OpenSpec := { _root_.Go.OpenSpec.ofChange s with cond := some uptoSmall }

/-- 'grommetlaw15.MemHalves', WHERE WHAT IT READS IS OF BULK AT MOST 1048576: true; the input reads as it did. -/
def memHalvesUptoRow : OpenClaim := { program := "ytefihkcmlmapoaa", sum := "32b444cdf9e024833c36fcd8819a3d014c5846837ab99c9caed176678f88d494", func := "grommet/grommetlaw15.MemHalves", spec := "memHalves", apart := false, narrowed := true }
def MemHalvesUptoSaid : Prop := memHalvesUptoRow.holds Try.pinned (OpenSpec.upto memHalvesSpec)

/-- 'grommetlaw15.MemNew', WHERE WHAT IT READS IS OF BULK AT MOST 1048576: true; the input reads as it did. -/
def memNewUptoRow : OpenClaim := { program := "ytefihkcmlmapoaa", sum := "32b444cdf9e024833c36fcd8819a3d014c5846837ab99c9caed176678f88d494", func := "grommet/grommetlaw15.MemNew", spec := "memNew", apart := false, narrowed := true }
def MemNewUptoSaid : Prop := memNewUptoRow.holds Try.pinned (OpenSpec.upto memNewSpec)

/-- 'grommetlaw15.MemKeeps', WHERE WHAT IT READS IS OF BULK AT MOST 1048576: true; the input reads as it did. -/
def memKeepsUptoRow : OpenClaim := { program := "ytefihkcmlmapoaa", sum := "32b444cdf9e024833c36fcd8819a3d014c5846837ab99c9caed176678f88d494", func := "grommet/grommetlaw15.MemKeeps", spec := "memKeeps", apart := false, narrowed := true }
def MemKeepsUptoSaid : Prop := memKeepsUptoRow.holds Try.pinned (OpenSpec.upto memKeepsSpec)

/-- 'grommetlaw15.MemPlays', WHERE WHAT IT READS IS OF BULK AT MOST 1048576: true; the input reads as it did. -/
def memPlaysUptoRow : OpenClaim := { program := "ytefihkcmlmapoaa", sum := "32b444cdf9e024833c36fcd8819a3d014c5846837ab99c9caed176678f88d494", func := "grommet/grommetlaw15.MemPlays", spec := "memPlays", apart := false, narrowed := true }
def MemPlaysUptoSaid : Prop := memPlaysUptoRow.holds Try.pinned (OpenSpec.upto memPlaysSpec)

/-- 'grommetlaw15.MemStays', WHERE WHAT IT READS IS OF BULK AT MOST 1048576: true; the input reads as it did. -/
def memStaysUptoRow : OpenClaim := { program := "ytefihkcmlmapoaa", sum := "32b444cdf9e024833c36fcd8819a3d014c5846837ab99c9caed176678f88d494", func := "grommet/grommetlaw15.MemStays", spec := "memStays", apart := false, narrowed := true }
def MemStaysUptoSaid : Prop := memStaysUptoRow.holds Try.pinned (OpenSpec.upto memStaysSpec)

end Rows
end Go.Proofs.Ytefihkcmlmapoaa
