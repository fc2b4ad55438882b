/- The law SectSplits, walked. -/
import Derived.Test.YtibeoejnfpbcfaaDoorSx7
import Derived.BigQuiet
namespace Go.Proofs.YtibeoejnfpbcfaaDoor.Sx
open Go.RowKit Go.Proofs.YtibeoejnfpbcfaaDoorW.PrintWords Go.Proofs.YtibeoejnfpbcfaaDoorW.PrintLast Go.Proofs.YtibeoejnfpbcfaaDoorW.PrintMore Go.Proofs.YtibeoejnfpbcfaaDoor.RSectSplits Go.Proofs.YtibeoejnfpbcfaaDoor.Leb Go.Proofs.YtibeoejnfpbcfaaDoor.Man
set_option linter.unusedVariables false
set_option linter.unusedSimpArgs false
theorem spl_len : ∀ (f : Nat) (l : List Int) (at_ : Nat) (last : Int) (out cs : List S34), out.length ≤ 128 → spl f l at_ last out = .ok cs → cs.length ≤ 128
  | 0, l, at_, last, out, cs, ho, h => by rw [spl] at h; injection h with h; rw [← h]; exact ho
  | f + 1, l, at_, last, out, cs, ho, h => by
    rw [spl] at h
    split at h
    · injection h with h; rw [← h]; exact ho
    · split at h
      · cases h
      · split at h
        · cases h
        · rename_i hne
          split at h
          · cases h
          · split at h
            · cases h
            · exact spl_len f _ _ _ _ cs (one_more ho hne) h
theorem split_len {l : List Int} {cs : List S34} (h : split l = .ok cs) : cs.length ≤ 128 := by
  unfold split at h
  split at h
  · exact spl_len _ _ _ _ _ cs (by simp) h
  · cases h
set_option maxRecDepth 100000 in
set_option maxHeartbeats 8000000 in
theorem splits_in (W : World) (hG : GL W) (A : Option Addr) (d : Nat) (b : List Int) (hA : U8.C W A b.length b) (hc : b.length ≤ d) (bb : Bytes b) (lb : b.length ≤ 3000) :
    Calls Tryd.prog 3 #[.slice A b.length d] W fun e w' => e = .returned (.bool true) ∧ Below W.heap.size W w' := by
  have HG := Aside0.mk hG
  have CC := Aside0.mk (show ∀ W5 : World, Below W.heap.size W W5 → Calls Tryd.prog 9 #[.slice A b.length d] W5 fun e w' => Res W5 (split b) e w' from
    fun W5 h5 => split_calls W5 A d b (Kd.C_below hA h5) hc bb (by omega))
  have CR := Aside0.mk (show ∀ W5 : World, Below W.heap.size W W5 → Calls Tryd.prog 10 #[.slice A b.length d] W5 fun e w' => ∃ v0_ : Value, e = .returned (.tuple #[v0_, .int .i64 (docV (split b)).2.1, .int .i64 (docV (split b)).2.2]) ∧ Kd.S k34 34 w' W5.heap.size (fun _ => True) v0_ (docV (split b)).1 ∧ Below W5.heap.size W5 w' from
    fun W5 h5 => grommetref07_Split.calls _ A d b _ _ _ W5 (Kd.C_below hA h5) hc (rsplit_f b bb (by omega)))
  have g1 : decide ((3000 : Int) < (b.length : Int)) = false := decide_eq_false (by omega)
  clear hG hA bb lb
  cases hd : split b with
  | error q =>
    obtain ⟨bad, i⟩ := q
    rw [hd] at CC CR
    have hbad := split_err hd
    clear hd
    have hb1 : (bad != 0) = true := by rcases hbad with rfl | rfl <;> rfl
    have hb2 : -9223372036854775808 ≤ bad ∧ bad < 9223372036854775808 := by rcases hbad with rfl | rfl <;> omega
    have HB2 := Aside0.mk hb2
    clear hbad hb2
    go_enter Tryd.func3, Tryd.ntmps3
    go_upto_region 5 with (first
      | (go_at_call 8; (refine (grommetlaw07_up.calls true _ HG.out rfl).mono ?_); rintro e w1 ⟨rfl, hB1⟩; have HB1 := Aside0.mk hB1; clear hB1)
      | (go_at_call 9; (with_reducible refine (CC.out _ HB1.out).mono ?_); rintro e w2 ⟨p, rfl, p0, p1, pl, hB2⟩; have HP2 := Aside0.mk (And.intro p0 p1); have HW2 := Aside0.mk (HB1.out.trans (hB2.mono HB1.out.size)); clear p0 p1 pl hB2))
    go_upto_region 6 with (go_at_call 10; (with_reducible refine (CR.out _ HW2.out).mono ?_); rintro e w4 ⟨v4, rfl, hR4, hB4⟩; have HP4 := Aside0.mk (And.intro (pw_cell_below hB4 HP2.out.1) (pw_cell_below hB4 HP2.out.2)); have HB4 := Aside0.mk (HW2.out.trans (hB4.mono HW2.out.size)); clear hR4 hB4)
    have I1 := Aside0.mk (show ∀ W5 : World, Below w4.heap.size w4 W5 → Calls Tryd.prog 11 #[.iface 46 (.pointer (some ⟨p, 0, none⟩)), .int .i64 bad, .int .i64 (i : Int)] W5 fun e w' => e = .returned (.bool true) ∧ Below W5.heap.size W5 w' from
      fun W5 h5 => told_calls p i bad W5 (GL_at (GL_at HG.out HB4.out) h5) (pw_cell_below h5 HP4.out.1) (pw_cell_below h5 HP4.out.2) HB2.out)
    have B4 := Aside0.mk (Below.refl w4.heap.size w4)
    simp only [docV]
    go_wp2_with (go_at_call 11; (with_reducible refine (I1.out _ (by repeat (first | exact B4.out | apply pw_below_drewN | apply below_drew))).mono ?_); rintro e w5 ⟨rfl, hB5⟩; have B5 := Aside0.mk (B4.out.trans (hB5.mono B4.out.size)); clear hB5)
    go_ret
    exact ⟨rfl, HB4.out.trans (B5.out.mono HB4.out.size)⟩
  | ok cs =>
    have HCL := Aside0.mk (split_len hd)
    rw [hd] at CC CR
    clear hd
    go_enter Tryd.func3, Tryd.ntmps3
    go_upto_region 5 with (first
      | (go_at_call 8; (refine (grommetlaw07_up.calls true _ HG.out rfl).mono ?_); rintro e w1 ⟨rfl, hB1⟩; have HB1 := Aside0.mk hB1; clear hB1)
      | (go_at_call 9; (with_reducible refine (CC.out _ HB1.out).mono ?_); rintro e w2 ⟨A2, c2, rfl, hR2, hB2⟩; have HR2 := Aside0.mk hR2; have HW2 := Aside0.mk (HB1.out.trans (hB2.mono HB1.out.size)); clear hR2 hB2))
    go_upto_region 6 with (go_at_call 10; (with_reducible refine (CR.out _ HW2.out).mono ?_); rintro e w4 ⟨v4, rfl, hS4, hB4⟩; obtain ⟨A4, c4, rfl⟩ := Kd.S_slice hS4; have HS4 := Aside0.mk hS4; have HR4 := Aside0.mk (Kd.R_below HR2.out hB4); have HB4 := Aside0.mk (HW2.out.trans (hB4.mono HW2.out.size)); clear hS4 hB4)
    simp only [docV] at HS4 ⊢
    obtain ⟨_, lca, hca⟩ := Kd.R_reads' HR4.out
    obtain ⟨_, lcb, hcb⟩ := Kd.S_reads' HS4.out
    have SM := Aside0.mk (show ∀ W5 : World, Below w4.heap.size w4 W5 → Calls Tryd.prog 12 #[.slice A2 cs.length c2, .slice A4 cs.length c4] W5 fun e w' => e = .returned (.bool true) ∧ Drawn0 W5 w' from
      fun W5 h5 => grommetref07_Same.calls _ A2 c2 cs A4 c4 cs true W5 (Kd.C_below hca h5) lca (Kd.C_below hcb h5) lcb (same_self cs (Nat.le_trans HCL.out (by decide))))
    have B4 := Aside0.mk (Below.refl w4.heap.size w4)
    have HCA := Aside0.mk hca
    have HCB := Aside0.mk hcb
    clear HR2 CC CR hca hcb lca lcb HS4 HR4
    go_wp2_with (go_at_call 12; (with_reducible refine (SM.out _ (by repeat (first | exact B4.out | apply pw_below_drewN | apply below_drew))).mono ?_); rintro e w5 ⟨rfl, ⟨nd, rfl⟩⟩)
    go_loopg [9] cs.length (fun kq v9 w' => ∃ (j : Nat), v9 = .int .i64 (j : Int) ∧ j + kq = cs.length ∧ Aside0 (Below w4.heap.size w4 w'))
    case atStart => exact ⟨0, rfl, by omega, ⟨by repeat (first | exact B4.out | apply pw_below_drewN | apply below_drew)⟩⟩
    case round =>
      obtain ⟨j, rfl, hj, HB⟩ := hrel
      cases gk with
      | zero =>
        have l1 : ((j : Int) < (cs.length : Int)) = False := eq_false (by omega)
        go_wp2_with fail
        go_ret
        exact ⟨rfl, HB4.out.trans (HB.out.mono HB4.out.size)⟩
      | succ k2 =>
        have l1 : ((j : Int) < (cs.length : Int)) = True := eq_true (by omega)
        have i0 : (0 : Int) ≤ (j : Int) := by omega
        obtain ⟨ad1, A11, c11, rfl, x0, x1, x2, _, _⟩ := at_T34 (Kd.C_below HCA.out HB.out) (j : Int) i0 (by omega)
        obtain ⟨ad2, A12, c12, rfl, y0, y1, y2, _, _⟩ := at_T34 (Kd.C_below HCB.out HB.out) (j : Int) i0 (by omega)
        simp only [Int.toNat_natCast] at x0 x1 x2 y0 y1 y2
        obtain ⟨x, hx⟩ : ∃ x, x = (rd_T34 cs (j : Int)).f1 := ⟨_, rfl⟩
        rw [← hx] at x1 y1
        have e9 : wrap64 ((j : Int) + 1) = (j : Int) + 1 := by have := HCL.out; unfold wrap64; omega
        clear hx x0 x2 y0 y2
        go_upto_region 13 with fail
        go_quiet (fail)
        go_wp2_with fail
        go_roundg k2
        case measure => omega
        case rel => exact ⟨j + 1, by first | rfl | (rw [e9]; rfl), by omega, ⟨by repeat (first | exact HB.out | apply pw_below_drewN | apply below_drew)⟩⟩
theorem splits (W : World) (hG : GL W) (A : Option Addr) (d : Nat) (b : List Int) (hA : U8.C W A b.length b) (hc : b.length ≤ d) (bb : Bytes b) :
    Calls Tryd.prog 3 #[.slice A b.length d] W fun e w' => e = .returned (.bool true) ∧ Below W.heap.size W w' := by
  by_cases lb : b.length ≤ 3000
  · exact splits_in W hG A d b hA hc bb lb
  · have HG := Aside0.mk hG
    have g1 : decide ((3000 : Int) < (b.length : Int)) = true := decide_eq_true (by omega)
    clear hG hA bb lb
    go_enter Tryd.func3, Tryd.ntmps3
    go_wp2_with (go_at_call 8; (refine (grommetlaw07_up.calls true _ HG.out rfl).mono ?_); rintro e w1 ⟨rfl, hB1⟩; have HB1 := Aside0.mk hB1; clear hB1)
    go_ret
    exact ⟨rfl, HB1.out⟩
end Go.Proofs.YtibeoejnfpbcfaaDoor.Sx
