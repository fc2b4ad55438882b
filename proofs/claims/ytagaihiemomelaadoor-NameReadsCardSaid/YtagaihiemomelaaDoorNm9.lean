/- Plain facts on UTF-8: the document's reading ('at', 'Chars') is what name.read tells. -/
import Derived.Test.YtagaihiemomelaaDoorNm8
set_option linter.unusedVariables false
set_option linter.unusedSimpArgs false
namespace Go.Proofs.YtagaihiemomelaaDoor.Nm
set_option linter.unusedSectionVars false
open Go.RowKit Go.Proofs.YtagaihiemomelaaDoorW.PrintWords Go.Proofs.YtagaihiemomelaaDoorW.PrintMore Go.Proofs.YtagaihiemomelaaDoorW.PrintLast
open Go.Proofs.YtagaihiemomelaaDoor.RNameReads (grommetref02_at.f grommetref02_at.l0 grommetref02_at.l1 grommetref02_at.j1 grommetref02_at.j2 grommetref02_at.mono grommetref02_Chars.f grommetref02_Chars.l0 grommetref02_Char.f grommetref02_Put.f)
section
variable {l : List Int} {i : Nat} (hb : Bytes l) (hN : l.length ≤ 100000)
include hN hb
theorem j1_one (k : Nat) (hin : i + 1 ≤ l.length) : grommetref02_at.j1 (k + 1) l (i : Int) 1 true = grommetref02_at.j2 k l (i : Int) 1 (b_ (l.drop i) 0) := by
  have h0 := b_range (i := i) hb hN 0
  have r0 : rd l (i : Int) = b_ (l.drop i) 0 := rd_b (i := i) hN 0
  have e2 : wrap64 (b_ (l.drop i) 0) = b_ (l.drop i) 0 := w64 _ (by omega) (by omega)
  have i0 : (0 : Int) ≤ (i : Int) := Int.natCast_nonneg _
  have i1 : (i : Int) < (l.length : Int) := by omega
  rw [grommetref02_at.j1, if_pos rfl, if_pos i0, if_pos i1, if_neg (by decide), r0, e2]
theorem j1_more (k : Nat) (n q p : Int) (hn : 1 < n) (hq : shl .i64 2 n = q) (hp : wrap64 ((256 : Int) / q) = p) (q0 : q ≠ 0) (p0 : p ≠ 0) (hin : i + 1 ≤ l.length) : grommetref02_at.j1 (k + 1) l (i : Int) n true = grommetref02_at.j2 k l (i : Int) n (b_ (l.drop i) 0 % p) := by
  have h0 := b_range (i := i) hb hN 0
  have r0 : rd l (i : Int) = b_ (l.drop i) 0 := rd_b (i := i) hN 0
  have e2 : wrap64 (b_ (l.drop i) 0) = b_ (l.drop i) 0 := w64 _ (by omega) (by omega)
  have i0 : (0 : Int) ≤ (i : Int) := Int.natCast_nonneg _
  have i1 : (i : Int) < (l.length : Int) := by omega
  have n1 : n > 1 := hn
  have n0 : 0 ≤ n := by omega
  rw [grommetref02_at.j1, if_pos rfl, if_pos i0, if_pos i1, if_pos n1, if_pos n0, hq, if_neg q0, hp, if_neg p0, r0, e2, Int.tmod_eq_emod_of_nonneg h0.1]
theorem l0_in (k n : Nat) (hn : n ≤ 4) (hin : i + n ≤ l.length) : grommetref02_at.l0 (k + 1) l (i : Int) (n : Int) = grommetref02_at.j1 k l (i : Int) (n : Int) true := by
  have e1 : wrap64 ((i : Int) + (n : Int)) = ((i + n : Nat) : Int) := by unfold wrap64; omega
  have n4 : (n : Int) ≤ 4 := by omega
  have d : decide (((i + n : Nat) : Int) ≤ (l.length : Int)) = true := decide_eq_true (by omega)
  rw [grommetref02_at.l0, if_pos n4, e1, d]
theorem j2_eq (k : Nat) (n x : Int) : grommetref02_at.j2 (k + 1) l (i : Int) n x = grommetref02_at.l1 k l (i : Int) n x ((1 : Nat) : Int) := by
  rw [grommetref02_at.j2]; rfl
theorem wr (q p : Int) (h : (256 : Int) / q = p) (h1 : p = 32 ∨ p = 16 ∨ p = 8) : wrap64 ((256 : Int) / q) = p := by rw [h]; exact w64 _ (by omega) (by omega)
theorem l0_1 (k : Nat) (hin : i + 1 ≤ l.length) : grommetref02_at.l0 (k + 4) l (i : Int) ((1 : Nat) : Int) = grommetref02_at.l1 (k + 1) l (i : Int) ((1 : Nat) : Int) (cv (l.drop i) 1) ((1 : Nat) : Int) := by
  rw [show k + 4 = (k + 3) + 1 from rfl, l0_in hb hN (k + 3) 1 (by decide) hin]
  exact (j1_one hb hN (k + 2) hin).trans (j2_eq hb hN (k + 1) _ _)
theorem l0_2 (k : Nat) (hin : i + 2 ≤ l.length) : grommetref02_at.l0 (k + 5) l (i : Int) ((2 : Nat) : Int) = grommetref02_at.l1 (k + 1) l (i : Int) ((2 : Nat) : Int) (cv (l.drop i) 2) ((2 : Nat) : Int) := by
  have h0 := b_range (i := i) hb hN 0
  rw [show k + 5 = (k + 4) + 1 from rfl, l0_in hb hN (k + 4) 2 (by decide) hin]
  refine (j1_more hb hN (k + 3) 2 8 32 (by decide) (by decide +kernel) (wr hb hN 8 32 (by decide) (by decide)) (by decide) (by decide) (by omega)).trans ?_
  refine (j2_eq hb hN (k + 2) _ _).trans ?_
  exact l1_step hb hN (k + 1) 2 1 _ 2 rfl (by decide) (by decide) hin (by omega) (by omega)
theorem l0_3 (k : Nat) (hin : i + 3 ≤ l.length) : grommetref02_at.l0 (k + 6) l (i : Int) ((3 : Nat) : Int) = grommetref02_at.l1 (k + 1) l (i : Int) ((3 : Nat) : Int) (cv (l.drop i) 3) ((3 : Nat) : Int) := by
  have h0 := b_range (i := i) hb hN 0
  have h1 := b_range (i := i) hb hN 1
  rw [show k + 6 = (k + 5) + 1 from rfl, l0_in hb hN (k + 5) 3 (by decide) hin]
  refine (j1_more hb hN (k + 4) 3 16 16 (by decide) (by decide +kernel) (wr hb hN 16 16 (by decide) (by decide)) (by decide) (by decide) (by omega)).trans ?_
  refine (j2_eq hb hN (k + 3) _ _).trans ?_
  refine (l1_step hb hN (k + 2) 3 1 _ 2 rfl (by decide) (by decide) hin (by omega) (by omega)).trans ?_
  exact l1_step hb hN (k + 1) 3 2 _ 3 rfl (by decide) (by decide) hin (by omega) (by omega)
theorem l0_4 (k : Nat) (hin : i + 4 ≤ l.length) : grommetref02_at.l0 (k + 7) l (i : Int) ((4 : Nat) : Int) = grommetref02_at.l1 (k + 1) l (i : Int) ((4 : Nat) : Int) (cv (l.drop i) 4) ((4 : Nat) : Int) := by
  have h0 := b_range (i := i) hb hN 0
  have h1 := b_range (i := i) hb hN 1
  have h2 := b_range (i := i) hb hN 2
  rw [show k + 7 = (k + 6) + 1 from rfl, l0_in hb hN (k + 6) 4 (by decide) hin]
  refine (j1_more hb hN (k + 5) 4 32 8 (by decide) (by decide +kernel) (wr hb hN 32 8 (by decide) (by decide)) (by decide) (by decide) (by omega)).trans ?_
  refine (j2_eq hb hN (k + 4) _ _).trans ?_
  refine (l1_step hb hN (k + 3) 4 1 _ 2 rfl (by decide) (by decide) hin (by omega) (by omega)).trans ?_
  refine (l1_step hb hN (k + 2) 4 2 _ 3 rfl (by decide) (by decide) hin (by omega) (by omega)).trans ?_
  exact l1_step hb hN (k + 1) 4 3 _ 4 rfl (by decide) (by decide) hin (by omega) (by omega)
theorem l0_yes (k n : Nat) (h1 : 1 ≤ n) (hn : n ≤ 4) (hin : i + n ≤ l.length) :
    grommetref02_at.l0 (k + n + 3) l (i : Int) (n : Int) = if Fits (l.drop i) n then some (cv (l.drop i) n, (n : Int)) else grommetref02_at.l0 k l (i : Int) ((n + 1 : Nat) : Int) := by
  have e : grommetref02_at.l0 (k + n + 3) l (i : Int) (n : Int) = grommetref02_at.l1 (k + 1) l (i : Int) (n : Int) (cv (l.drop i) n) (n : Int) := by
    rcases (show n = 1 ∨ n = 2 ∨ n = 3 ∨ n = 4 by omega) with rfl | rfl | rfl | rfl
    · exact l0_1 hb hN k hin
    · exact l0_2 hb hN k hin
    · exact l0_3 hb hN k hin
    · exact l0_4 hb hN k hin
  rw [e, l1_end hb hN k n _ hn hin]
  rfl
end
end Go.Proofs.YtagaihiemomelaaDoor.Nm
