/- The head of list's statements by contract, and what Parse leaves, read. -/
import Derived.Test.YtiicmihecdeebaaLt3
set_option linter.unusedVariables false
set_option linter.unusedSimpArgs false
namespace Go.Proofs.Ytiicmihecdeebaa.Man
open Go.RowKit Go.Proofs.YtiicmihecdeebaaW.PrintWords Go.Proofs.YtiicmihecdeebaaW.PrintLast Go.Proofs.YtiicmihecdeebaaW.PrintMore Go.Proofs.Ytiicmihecdeebaa.RListFlats Go.Proofs.Ytiicmihecdeebaa.Lt
def tks : List S36 := [⟨1, 0, ⟨#[]⟩⟩, ⟨4, 1, ⟨#[97]⟩⟩, ⟨1, 3, ⟨#[]⟩⟩, ⟨4, 4, ⟨#[98]⟩⟩, ⟨2, 5, ⟨#[]⟩⟩, ⟨2, 6, ⟨#[]⟩⟩]
def nds : List S39 := [⟨1, 0, ⟨#[]⟩, [⟨4, 1, ⟨#[97]⟩, []⟩, ⟨1, 3, ⟨#[]⟩, [⟨4, 4, ⟨#[98]⟩, []⟩]⟩]⟩]
theorem up_prs : prsO tks = some nds := by rfl
def tcells : Array Value := #[.int .i64 1, .int .i64 0, .string ⟨#[]⟩, .int .i64 4, .int .i64 1, .string ⟨#[97]⟩, .int .i64 1, .int .i64 3, .string ⟨#[]⟩, .int .i64 4, .int .i64 4, .string ⟨#[98]⟩, .int .i64 2, .int .i64 5, .string ⟨#[]⟩, .int .i64 2, .int .i64 6, .string ⟨#[]⟩]
theorem tks_C (w : World) : k36.C (w.alloc (.cells tcells 36)) (some ⟨w.heap.size, 0, none⟩) 6 tks := by
  have h := World.ownsRow_lit (base := 0) (e := 36) (size := 3) w tcells 6 (Nat.zero_le _) (by decide) rfl
  have hR : k36.R 36 (w.alloc (.cells tcells 36)) 0 (fun _ => True) (.slice (some ⟨w.heap.size, 0, none⟩) 6 6) tks := ⟨fun _ _ => trivial, tcells.toList, h, rfl, fun j x hj => by
    rcases j with _ | _ | _ | _ | _ | _ | j
    · cases hj; exact k36_mkM _ _ _ _
    · cases hj; exact k36_mkM _ _ _ _
    · cases hj; exact k36_mkM _ _ _ _
    · cases hj; exact k36_mkM _ _ _ _
    · cases hj; exact k36_mkM _ _ _ _
    · cases hj; exact k36_mkM _ _ _ _
    · cases hj⟩
  exact (Kd.R_reads' hR).2.2
/-- One node of a row that the call has made. -/
theorem R_node {W : World} {base g n c : Nat} {ok : Nat → Prop} {xs : List S39} (h : k39.R 39 W base ok (.slice (some ⟨g, 0, none⟩) n c) xs) (i : Nat) (hi : i < n) :
    ∃ A3 c3, W.cell? ⟨g, i * 4, none⟩ = some (.int .i64 (rd_T39 xs i).f0) ∧ W.cell? ⟨g, i * 4 + 1, none⟩ = some (.int .i64 (rd_T39 xs i).f1) ∧ W.cell? ⟨g, i * 4 + 2, none⟩ = some (.string (rd_T39 xs i).f2) ∧ W.cell? ⟨g, i * 4 + 3, none⟩ = some (.slice A3 (rd_T39 xs i).f3.length c3) ∧ k39.R 39 W base (fun k => ok k ∧ k ≠ g) (.slice A3 (rd_T39 xs i).f3.length c3) (rd_T39 xs i).f3 := by
  obtain ⟨cc, hcl, hM, hcells, _⟩ := Kd.R_elem h z39 (i : Int) (by omega) (by omega)
  obtain ⟨v3, rfl, hR⟩ := k39_openM hM
  obtain ⟨A3, c3, rfl⟩ := Kd.R_slice hR
  simp only [Int.toNat_natCast] at hcells
  exact ⟨A3, c3, hcells 0 _ rfl, hcells 1 _ rfl, hcells 2 _ rfl, hcells 3 _ rfl, hR⟩
def grommetlaw10_up.f : Option Bool := some true
set_option maxHeartbeats 2000000 in
theorem grommetlaw10_up.calls (r : Bool) (w : World) (h : grommetlaw10_up.f = some r) :
    Calls Try.prog 7 #[] w fun e w' => e = .returned (.bool r) ∧ Below w.heap.size w w' := by
  obtain rfl := Option.some.inj h
  have CP := Aside0.mk (parse_calls (w.alloc (.cells tcells 36)) (some ⟨w.heap.size, 0, none⟩) 6 tks (tks_C w) (by decide))
  rw [up_prs] at CP
  have e6 : tks.length = 6 := rfl
  rw [e6] at CP
  clear h e6
  unfold tcells at CP
  go_enter Try.func7, Try.ntmps7
  go_upto_region 2 with (go_at_call 8; (refine CP.out.mono ?_); rintro e w5 ⟨⟨A, c, rfl, hR⟩, hB⟩; have HR := Aside0.mk hR; have HB := Aside0.mk hB; clear hR hB)
  obtain ⟨g0, c0, he, _⟩ := Kd.R_form HR.out (by decide)
  simp only [Value.slice.injEq] at he
  obtain ⟨rfl, _, rfl⟩ := he
  obtain ⟨A1, c1, _, _, _, y3, hR1⟩ := R_node HR.out 0 (by decide)
  obtain ⟨g1, c1', he, _⟩ := Kd.R_form hR1 (by decide)
  simp only [Value.slice.injEq] at he
  obtain ⟨rfl, _, rfl⟩ := he
  obtain ⟨A2, c2, _, _, _, z3, hR2⟩ := R_node hR1 1 (by decide)
  obtain ⟨g2, c2', he, _⟩ := Kd.R_form hR2 (by decide)
  simp only [Value.slice.injEq] at he
  obtain ⟨rfl, _, rfl⟩ := he
  obtain ⟨A3, c3, _, _, u2, _, _⟩ := R_node hR2 0 (by decide)
  have b0 : nds.length = 1 := rfl
  rw [b0]
  have y3' : w5.cell? ⟨g0, 3, none⟩ = some (.slice (some ⟨g1, 0, none⟩) 2 c1) := y3
  have z3' : w5.cell? ⟨g1, 7, none⟩ = some (.slice (some ⟨g2, 0, none⟩) 1 c2) := z3
  have u2' : w5.cell? ⟨g2, 2, none⟩ = some (.string ⟨#[98]⟩) := u2
  have HB2 := Aside0.mk ((below_alloc (Below.refl w.heap.size w) (.cells tcells 36)).trans (HB.out.mono (by simp)))
  clear CP HR HB y3 z3 u2 hR1 hR2 b0
  go_wp2
  go_ret
  exact ⟨rfl, HB2.out⟩
end Go.Proofs.Ytiicmihecdeebaa.Man
