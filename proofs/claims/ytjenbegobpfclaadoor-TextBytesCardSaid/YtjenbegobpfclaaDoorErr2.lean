/- errors.As at a *api.Spot, errors.Is of a Spot that holds a Code, and law00's Is and Of over a Spot, by their contracts, whatever the world. -/
import Derived.Test.YtjenbegobpfclaaDoorErr1
import Derived.WalkKit
import Derived.LaidEql
import Derived.Stop.Asserts
import Derived.RowKitTokens
import Derived.Below
import Derived.BigQuiet
import Derived.Test.YtjenbegobpfclaaDoorWWords
namespace Go.Proofs.YtjenbegobpfclaaDoor.Err
open Go.RowKit Go.Extern.Stop Go.Stop Go.Extern Go
set_option linter.unusedVariables false
set_option linter.unusedSimpArgs false
open Go.Proofs.YtjenbegobpfclaaDoorW.PrintWords

theorem ptr_neq (w : World) (p : Addr) : (binOp .neq 25 (.iface 36 (.pointer (some p))) (.iface 36 (.pointer (some p)))).run Tryd.prog w = .ok (.bool false) w := by
  obtain ⟨i, hi, hcmp⟩ := Option.map_eq_some_iff.1 (show (Tryd.prog.info? 36).map (·.comparable) = some true by kernel_rfl)
  obtain ⟨j, hj, _⟩ := Option.map_eq_some_iff.1 (show (Tryd.prog.info? 38).map (·.size) = some 2 by kernel_rfl)
  simp only [binOp]
  simp [Op.equal, Op.maxDepth, run_equalIn_iface_ptr_same w 9998 p Tryd.underlying25 Tryd.underlying36 hi hcmp hj]
/-- errors.As of a Spot: what is asked of it afterwards. -/
theorem as_spot (e t : Addr) (old : Value) (w : World) (hg : w.cell? ⟨0, 0, none⟩ = some (.iface 78 (.agg #[.pointer (some ⟨2, 25, none⟩)]))) (ht0 : w.cell? t = some old) (hf0 : w.frozen? t = false) :
    Calls Tryd.prog 11 #[.iface 36 (.pointer (some e)), .iface 40 (.pointer (some t))] w fun ev w' => ev = .returned (.bool true) ∧ w'.cell? t = some (.pointer (some e)) ∧ Below t.block w w' := by
  refine (as_hit e t old w hg ht0 hf0).mono ?_
  rintro ev w' ⟨rfl, rfl⟩
  have htl : t.block < w.heap.size := World.block_lt_of_cell? w t ht0
  have b4 : Below t.block w ((((w.alloc (.cells #[.pointer (some t)] 40)).alloc (.cells #[.pointer (some ⟨2, 40, none⟩), .pointer (some ⟨w.heap.size, 0, none⟩), .int .u64 150] 61)).alloc (.cells #[.pointer (some ⟨2, 40, none⟩), .pointer (some ⟨w.heap.size, 0, none⟩), .int .u64 150] 61)).alloc (.cells #[.pointer (some e)] 36)) :=
    Below.mono (below_alloc (below_alloc (below_alloc (below_alloc (Below.refl w.heap.size w) _) _) _) _) (Nat.le_of_lt htl)
  have c4 : ((((w.alloc (.cells #[.pointer (some t)] 40)).alloc (.cells #[.pointer (some ⟨2, 40, none⟩), .pointer (some ⟨w.heap.size, 0, none⟩), .int .u64 150] 61)).alloc (.cells #[.pointer (some ⟨2, 40, none⟩), .pointer (some ⟨w.heap.size, 0, none⟩), .int .u64 150] 61)).alloc (.cells #[.pointer (some e)] 36)).cell? t = some old := by
    rw [World.cell?_alloc_lt _ _ t (by simp; omega), World.cell?_alloc_lt _ _ t (by simp; omega), World.cell?_alloc_lt _ _ t (by simp; omega), World.cell?_alloc_lt _ _ t htl]; exact ht0
  exact ⟨rfl, World.cell?_setCell_same _ _ _ c4, b4.setCell (Nat.le_refl _) _⟩
/-- law00's Is over a Spot of that place and that Code: it is. -/
theorem law_is (p : Nat) (at_ c : Int) (w : World) (hg : w.cell? ⟨0, 0, none⟩ = some (.iface 78 (.agg #[.pointer (some ⟨2, 25, none⟩)]))) (h0 : w.cell? ⟨p, 0, none⟩ = some (.int .i64 at_)) (h1 : w.cell? ⟨p, 1, none⟩ = some (.iface 31 (.int .i64 c))) :
    Calls Tryd.prog 7 #[.iface 36 (.pointer (some ⟨p, 0, none⟩)), .int .i64 at_, .int .i64 c] w fun e w' => e = .returned (.bool true) ∧ Below w.heap.size w w' := by
  have hpl : p < w.heap.size := World.block_lt_of_cell? w ⟨p, 0, none⟩ h0
  have hgl : 0 < w.heap.size := World.block_lt_of_cell? w ⟨0, 0, none⟩ hg
  have bA : Below w.heap.size w (w.alloc (.cells #[.pointer none] 36)) := below_alloc (Below.refl _ _) _
  have hgA : (w.alloc (.cells #[.pointer none] 36)).cell? ⟨0, 0, none⟩ = some (.iface 78 (.agg #[.pointer (some ⟨2, 25, none⟩)])) := (World.cell?_of_block (a := ⟨0, 0, none⟩) (bA.block _ hgl)).trans hg
  have HA := Aside0.mk (as_spot ⟨p, 0, none⟩ ⟨w.heap.size, 0, none⟩ (.pointer none) (w.alloc (.cells #[.pointer none] 36)) hgA (by simp) (by simp))
  have H01 := Aside0.mk (And.intro h0 h1)
  have HB := Aside0.mk bA
  have nq := fun w => ptr_neq w ⟨p, 0, none⟩
  have cq := fun w => code_eql w c c
  have hcc : (c == c) = true := by simp
  have haa : (at_ == at_) = true := by simp
  simp only [hcc] at cq
  clear hg h0 h1 hgA bA
  go_enter Tryd.func7, Tryd.ntmps7
  go_wp2_with (first
    | (go_at_call 11; (refine HA.out.mono ?_); rintro e w1 ⟨rfl, hs, hb⟩; have bw : Below w.heap.size w w1 := HB.out.trans hb; have k0 := (World.cell?_of_block (a := ⟨p, 0, none⟩) (bw.block _ hpl)).trans H01.out.1; have k1 := (World.cell?_of_block (a := ⟨p, 1, none⟩) (bw.block _ hpl)).trans H01.out.2; have BW := Aside0.mk bw; clear hb bw)
    | (go_at_call 12; (refine (is_spot p c _ k1).mono ?_); rintro e w2 ⟨rfl, rfl⟩))
  go_ret
  exact ⟨rfl, BW.out⟩
end Go.Proofs.YtjenbegobpfclaaDoor.Err
