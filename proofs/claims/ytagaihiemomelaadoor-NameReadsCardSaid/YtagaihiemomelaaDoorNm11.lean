/- The law NameReads, walked: the characters of any bytes, or where there is none. -/
import Derived.Test.YtagaihiemomelaaDoorNm7
import Derived.Test.YtagaihiemomelaaDoorNm10
namespace Go.Proofs.YtagaihiemomelaaDoor.Nm
open Go.RowKit Go.Proofs.YtagaihiemomelaaDoorW.PrintWords Go.Proofs.YtagaihiemomelaaDoorW.PrintLast Go.Proofs.YtagaihiemomelaaDoorW.PrintMore Go.Proofs.YtagaihiemomelaaDoor.RNameReads Go.Proofs.YtagaihiemomelaaDoor.Man
set_option linter.unusedVariables false
set_option linter.unusedSimpArgs false
set_option maxHeartbeats 8000000 in
theorem reads_in (W : World) (hG : GL W) (A : Option Addr) (d : Nat) (b : List Int) (hA : U8.C W A b.length b) (hc : b.length ≤ d) (bb : Bytes b) (lb : b.length ≤ 1000) :
    Calls Tryd.prog 3 #[.slice A b.length d] W fun e w' => e = .returned (.bool true) ∧ Below W.heap.size W w' := by
  have HG := Aside0.mk hG
  have HL := Aside0.mk lb
  have CC := Aside0.mk (show ∀ W5 : World, Below W.heap.size W W5 → Calls Tryd.prog 9 #[.slice A b.length d] W5 fun e w' => Res W5 (dec b) e w' from
    fun W5 h5 => by have := chars_calls W5 A d b (Kd.C_below hA h5) hc bb (by omega); rw [chars_dec] at this; exact this)
  have CK := Aside0.mk (show ∀ W5 : World, Below W.heap.size W W5 → Calls Tryd.prog 10 #[.slice A b.length d] W5 fun e w' => ResE W5 (dec b) e w' from
    fun W5 h5 => by have := check_calls W5 A d b (Kd.C_below hA h5) hc bb (by omega); rw [chars_dec] at this; exact this)
  have CR := Aside0.mk (show ∀ W5 : World, Below W.heap.size W W5 → Calls Tryd.prog 11 #[.slice A b.length d] W5 fun e w' => ∃ v0_ : Value, e = .returned (.tuple #[v0_, .int .i64 (docV (dec b)).2]) ∧ I64.R 3 w' W5.heap.size (fun _ => True) v0_ (docV (dec b)).1 ∧ Below W5.heap.size W5 w' from
    fun W5 h5 => grommetref02_Chars.calls (24 + (b.length + 1)) A d b _ _ W5 (Kd.C_below hA h5) hc (rChars_f b bb (by omega)))
  have g1 : decide ((1000 : Int) < (b.length : Int)) = false := decide_eq_false (by omega)
  have HDE := Aside0.mk (show ∀ cs, dec b = .ok cs → cs.length ≤ 1000 from fun cs hd => by
    have h9 := (dec_enc b.length b cs (Nat.le_refl _) bb hd)
    have := flat_len cs
    rw [h9.2] at this
    omega)
  clear hG hA bb lb
  cases hd : dec b with
  | error i =>
    rw [hd] at CC CK CR
    clear HDE hd
    go_enter Tryd.func3, Tryd.ntmps3
    go_upto_region 5 with (first
      | (go_at_call 8; (refine (grommetlaw02_up.calls true _ HG.out rfl).mono ?_); rintro e w1 ⟨rfl, hB1⟩; have HB1 := Aside0.mk hB1; clear hB1)
      | (go_at_call 9; (with_reducible refine (CC.out _ HB1.out).mono ?_); rintro e w2 ⟨p, rfl, p0, p1, pl, hB2⟩; have HP2 := Aside0.mk (And.intro p0 p1); have HB2 := Aside0.mk (HB1.out.trans (hB2.mono HB1.out.size)); clear p0 p1 pl hB2))
    go_upto_region 6 with (go_at_call 10; (with_reducible refine (CK.out _ HB2.out).mono ?_); rintro e w3 ⟨q, rfl, q0, q1, ql, hB3⟩; have HQ3 := Aside0.mk (And.intro q0 q1); have HP3 := Aside0.mk (And.intro (pw_cell_below hB3 HP2.out.1) (pw_cell_below hB3 HP2.out.2)); have HB3 := Aside0.mk (HB2.out.trans (hB3.mono HB2.out.size)); clear q0 q1 ql hB3)
    go_upto_region 7 with (go_at_call 11; (with_reducible refine (CR.out _ HB3.out).mono ?_); rintro e w4 ⟨v4, rfl, hR4, hB4⟩; have HQ4 := Aside0.mk (And.intro (pw_cell_below hB4 HQ3.out.1) (pw_cell_below hB4 HQ3.out.2)); have HP4 := Aside0.mk (And.intro (pw_cell_below hB4 HP3.out.1) (pw_cell_below hB4 HP3.out.2)); have HB4 := Aside0.mk (HB3.out.trans (hB4.mono HB3.out.size)); clear hR4 hB4)
    have I1 := Aside0.mk (show ∀ W5 : World, Below w4.heap.size w4 W5 → Calls Tryd.prog 12 #[.iface 44 (.pointer (some ⟨p, 0, none⟩)), .int .i64 (i : Int), .int .i64 2] W5 fun e w' => e = .returned (.bool true) ∧ Below W5.heap.size W5 w' from
      fun W5 h5 => Err.law_is p i 2 W5 (GL_at (GL_at HG.out HB4.out) h5) (pw_cell_below h5 HP4.out.1) (pw_cell_below h5 HP4.out.2))
    have I2 := Aside0.mk (show ∀ W5 : World, Below w4.heap.size w4 W5 → Calls Tryd.prog 12 #[.iface 44 (.pointer (some ⟨q, 0, none⟩)), .int .i64 (i : Int), .int .i64 2] W5 fun e w' => e = .returned (.bool true) ∧ Below W5.heap.size W5 w' from
      fun W5 h5 => Err.law_is q i 2 W5 (GL_at (GL_at HG.out HB4.out) h5) (pw_cell_below h5 HQ4.out.1) (pw_cell_below h5 HQ4.out.2))
    have B4 := Aside0.mk (Below.refl w4.heap.size w4)
    have n0 : decide ((0 : Int) ≤ (i : Int)) = true := decide_eq_true (by omega)
    simp only [docV]
    go_upto_region 8 with fail
    go_wp2_with (first
      | (go_at_call 12; (with_reducible refine (I1.out _ (by repeat (first | exact B4.out | apply pw_below_drewN | apply below_drew))).mono ?_); rintro e w5 ⟨rfl, hB5⟩; have B5 := Aside0.mk (B4.out.trans (hB5.mono B4.out.size)); clear hB5 I1)
      | (go_at_call 12; (with_reducible refine (I2.out _ (by repeat (first | exact B5.out | apply pw_below_drewN | apply below_drew))).mono ?_); rintro e w6 ⟨rfl, hB6⟩; have B6 := Aside0.mk (B5.out.trans (hB6.mono B5.out.size)); clear hB6))
    go_ret
    exact ⟨rfl, HB4.out.trans (B6.out.mono HB4.out.size)⟩
  | ok cs =>
    have HCL := Aside0.mk (HDE.out cs hd)
    rw [hd] at CC CK CR
    clear HDE hd
    go_enter Tryd.func3, Tryd.ntmps3
    go_upto_region 5 with (first
      | (go_at_call 8; (refine (grommetlaw02_up.calls true _ HG.out rfl).mono ?_); rintro e w1 ⟨rfl, hB1⟩; have HB1 := Aside0.mk hB1; clear hB1)
      | (go_at_call 9; (with_reducible refine (CC.out _ HB1.out).mono ?_); rintro e w2 ⟨A2, c2, rfl, hR2, hB2⟩; have HR2 := Aside0.mk hR2; have HB2 := Aside0.mk (HB1.out.trans (hB2.mono HB1.out.size)); clear hR2 hB2))
    go_upto_region 6 with (go_at_call 10; (with_reducible refine (CK.out _ HB2.out).mono ?_); rintro e w3 ⟨rfl, hB3⟩; have HR3 := Aside0.mk (Kd.R_below HR2.out hB3); have HB3 := Aside0.mk (HB2.out.trans (hB3.mono HB2.out.size)); clear hB3)
    go_upto_region 7 with (go_at_call 11; (with_reducible refine (CR.out _ HB3.out).mono ?_); rintro e w4 ⟨v4, rfl, hR4, hB4⟩; obtain ⟨A4, c4, rfl⟩ := Kd.R_slice hR4; have HS4 := Aside0.mk hR4; have HR4 := Aside0.mk (Kd.R_below HR3.out hB4); have HB4 := Aside0.mk (HB3.out.trans (hB4.mono HB3.out.size)); clear hR4 hB4)
    simp only [docV] at HS4 ⊢
    have B4 := Aside0.mk (Below.refl w4.heap.size w4)
    clear HR2 HR3 CC CK CR
    go_wp2_with fail
    go_loopg [9] cs.length (fun kq v9 w' => ∃ (j : Nat), v9 = .int .i64 (j : Int) ∧ j + kq = cs.length ∧ Aside0 (Below w4.heap.size w4 w'))
    case atStart => exact ⟨0, rfl, by omega, B4⟩
    case round =>
      obtain ⟨j, rfl, hj, HB⟩ := hrel
      cases gk with
      | zero =>
        have l1 : ((j : Int) < (cs.length : Int)) = False := eq_false (by omega)
        go_wp2_with fail
        go_ret
        exact ⟨rfl, HB4.out.trans (HB.out.mono HB4.out.size)⟩
      | succ k2 =>
        have l1 : ((j : Int) < (cs.length : Int)) = True := eq_true (by omega)
        have i0 : (0 : Int) ≤ (j : Int) := by omega
        have hRa := Kd.R_below HR4.out HB.out
        have hRb := Kd.R_below HS4.out HB.out
        obtain ⟨ga, rfl⟩ : ∃ g, A2 = some ⟨g, 0, none⟩ := by
          obtain ⟨g, cap, he, _⟩ := Kd.R_form hRa (by omega)
          simp only [Value.slice.injEq] at he
          exact ⟨g, he.1⟩
        obtain ⟨gb, rfl⟩ : ∃ g, A4 = some ⟨g, 0, none⟩ := by
          obtain ⟨g, cap, he, _⟩ := Kd.R_form hRb (by omega)
          simp only [Value.slice.injEq] at he
          exact ⟨g, he.1⟩
        obtain ⟨ca, _⟩ := Kd.R_celln (d := (0 : Int)) hRa j (by omega) (by omega)
        obtain ⟨cb, _⟩ := Kd.R_celln (d := (0 : Int)) hRb j (by omega) (by omega)
        simp only [Int.toNat_natCast] at ca cb
        obtain ⟨x, hx⟩ : ∃ x, x = rdOf (0 : Int) cs (j : Int) := ⟨_, rfl⟩
        rw [← hx] at ca cb
        have e9 : wrap64 ((j : Int) + 1) = (j : Int) + 1 := by have := HCL.out; unfold wrap64; omega
        clear hRa hRb hx
        go_upto_region 14 with fail
        go_quiet (fail)
        go_wp2_with fail
        go_roundg k2
        case measure => omega
        case rel => exact ⟨j + 1, by first | rfl | (rw [e9]; rfl), by omega, ⟨by repeat (first | exact HB.out | apply pw_below_drewN | apply below_drew)⟩⟩
theorem reads (W : World) (hG : GL W) (A : Option Addr) (d : Nat) (b : List Int) (hA : U8.C W A b.length b) (hc : b.length ≤ d) (bb : Bytes b) :
    Calls Tryd.prog 3 #[.slice A b.length d] W fun e w' => e = .returned (.bool true) ∧ Below W.heap.size W w' := by
  by_cases lb : b.length ≤ 1000
  · exact reads_in W hG A d b hA hc bb lb
  · have HG := Aside0.mk hG
    have g1 : decide ((1000 : Int) < (b.length : Int)) = true := decide_eq_true (by omega)
    clear hG hA bb lb
    go_enter Tryd.func3, Tryd.ntmps3
    go_wp2_with (go_at_call 8; (refine (grommetlaw02_up.calls true _ HG.out rfl).mono ?_); rintro e w1 ⟨rfl, hB1⟩; have HB1 := Aside0.mk hB1; clear hB1)
    go_ret
    exact ⟨rfl, HB1.out⟩
end Go.Proofs.YtagaihiemomelaaDoor.Nm
