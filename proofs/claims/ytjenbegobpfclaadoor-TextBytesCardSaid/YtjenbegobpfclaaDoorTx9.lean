/- TextBytes, walked. -/
import Derived.Test.YtjenbegobpfclaaDoorUp
import Derived.Test.YtjenbegobpfclaaDoorTp5
import Derived.Test.YtjenbegobpfclaaDoorErr2
import Derived.BigQuiet
namespace Go.Proofs.YtjenbegobpfclaaDoor.Man
open Go.RowKit Go.Proofs.YtjenbegobpfclaaDoorW.PrintWords
/-- errors.errorType's one cell: the handle of the type error. -/
def GL (w : World) : Prop := w.cell? ⟨0, 0, none⟩ = some (.iface 78 (.agg #[.pointer (some ⟨2, 25, none⟩)]))
theorem GL_at {w W : World} (h : GL w) (hb : Below w.heap.size w W) : GL W := pw_cell_below hb h
end Go.Proofs.YtjenbegobpfclaaDoor.Man
namespace Go.Proofs.YtjenbegobpfclaaDoor.Tx
open Go.RowKit Go.Proofs.YtjenbegobpfclaaDoor.Man Go.Proofs.YtjenbegobpfclaaDoorW.PrintWords Go.Proofs.YtjenbegobpfclaaDoorW.PrintLast Go.Proofs.YtjenbegobpfclaaDoorW.PrintMore Go.Proofs.YtjenbegobpfclaaDoor.RTextBytes
set_option linter.unusedVariables false
set_option linter.unusedSimpArgs false
set_option maxRecDepth 100000 in
set_option maxHeartbeats 4000000 in
theorem bytes (W : World) (hG : GL W) (s : ByteArray) : Calls Tryd.prog 3 #[.string s] W fun e w' => e = .returned (.bool true) ∧ Below W.heap.size W w' := by
  have HG := Aside0.mk hG
  have hu25 := Tryd.underlying25
  by_cases hs : s.size ≤ 1000
  · have g1 : decide ((1000 : Int) < (s.size : Int)) = false := decide_eq_false (by omega)
    obtain ⟨r, hr, _⟩ := Tp.bys_all s hs
    obtain ⟨hR, hpos⟩ := Tp.rbys_all s hs r hr
    have CS := Aside0.mk (fun W5 : World => bytes_calls W5 s (by omega) 12 r hr)
    have CR := Aside0.mk (fun W5 : World => grommetref11_Bytes.calls 5000 s _ _ W5 hR)
    cases r with
    | error at_ =>
      have hat := hpos at_ rfl
      have g2 : decide ((0 : Int) ≤ at_) = true := decide_eq_true hat
      have g3 : decide (at_ ≥ (0 : Int)) = true := decide_eq_true hat
      simp only [Tp.resR] at CR
      clear hG hr hR hpos hs hat
      go_enter Tryd.func3, Tryd.ntmps3
      go_upto_region 5 with (first
      | (go_at_call 4; (refine (up_calls _).mono ?_); rintro e w1 ⟨rfl, hB1⟩; have HB1 := Aside0.mk hB1; clear hB1)
      | (go_at_call 5; (refine (CS.out _).mono ?_); rintro e w2 ⟨p, rfl, p0, p1, pl, hB2⟩; have HP2 := Aside0.mk (And.intro p0 p1); have HW2 := Aside0.mk (HB1.out.trans (hB2.mono HB1.out.size)); clear p0 p1 pl hB2))
      go_upto_region 6 with (go_at_call 6; (refine (CR.out _).mono ?_); rintro e w3 ⟨v3, rfl, hR3, hB3⟩; have HP3 := Aside0.mk (And.intro (pw_cell_below hB3 HP2.out.1) (pw_cell_below hB3 HP2.out.2)); have HB3 := Aside0.mk (HW2.out.trans (hB3.mono HW2.out.size)); clear hR3 hB3)
      have TC := Aside0.mk (Err.law_is p at_ 2 w3 (GL_at HG.out HB3.out) HP3.out.1 HP3.out.2)
      go_wp2_with (go_at_call 7; (refine TC.out.mono ?_); rintro e w4 ⟨rfl, hB4⟩; have HB4 := Aside0.mk (HB3.out.trans (hB4.mono HB3.out.size)); clear hB4)
      go_ret
      exact ⟨rfl, HB4.out⟩
    | ok o =>
      simp only [Tp.resR] at CR
      clear hG hr hR hpos hs
      go_enter Tryd.func3, Tryd.ntmps3
      go_upto_region 5 with (first
      | (go_at_call 4; (refine (up_calls _).mono ?_); rintro e w1 ⟨rfl, hB1⟩; have HB1 := Aside0.mk hB1; clear hB1)
      | (go_at_call 5; (refine (CS.out _).mono ?_); rintro e w2 ⟨A2, c2, rfl, hR2, hB2⟩; have HR2 := Aside0.mk (Kd.R_reads' hR2); have HW2 := Aside0.mk (HB1.out.trans (hB2.mono HB1.out.size)); clear hR2 hB2))
      go_upto_region 6 with (go_at_call 6; (refine (CR.out _).mono ?_); rintro e w3 ⟨v3, rfl, hR3, hB3⟩; obtain ⟨A3, c3, rfl⟩ := Kd.R_slice hR3; have HR3 := Aside0.mk (Kd.R_reads' hR3); have HC2 := Aside0.mk (Kd.C_below HR2.out.2.2 hB3); have HB3 := Aside0.mk (HW2.out.trans (hB3.mono HW2.out.size)); clear hR3 hB3)
      have j1 : (convert 23 9 (.slice A2 o.length c2)).run Tryd.prog w3 = .ok (.string (strOfNums o)) w3 := Kd.C_string (P := Tryd.prog) (src := 23) (dst := 9) (c := c2) Tryd.underlying23 Tryd.underlying5 Tryd.underlying9 HC2.out
      have j2 : (convert 23 9 (.slice A3 o.length c3)).run Tryd.prog w3 = .ok (.string (strOfNums o)) w3 := Kd.C_string (P := Tryd.prog) (src := 23) (dst := 9) (c := c3) Tryd.underlying23 Tryd.underlying5 Tryd.underlying9 HR3.out.2.2
      generalize strOfNums o = S0 at j1 j2
      clear HR2 HR3 HC2 CS CR
      go_wp2_with fail
      go_ret
      exact ⟨rfl, HB3.out⟩
  · have g1 : decide ((1000 : Int) < (s.size : Int)) = true := decide_eq_true (by omega)
    clear hG hs
    go_enter Tryd.func3, Tryd.ntmps3
    go_wp2_with (go_at_call 4; (refine (up_calls _).mono ?_); rintro e w1 ⟨rfl, hB1⟩; have HB1 := Aside0.mk hB1; clear hB1)
    go_ret
    exact ⟨rfl, HB1.out⟩
end Go.Proofs.YtjenbegobpfclaaDoor.Tx
