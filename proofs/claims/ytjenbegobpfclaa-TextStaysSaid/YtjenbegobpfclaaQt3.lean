/- TextBack: the walk. -/
import Derived.Test.YtjenbegobpfclaaQt2
import Derived.Test.YtjenbegobpfclaaTp4
set_option linter.unusedVariables false
set_option linter.unusedSimpArgs false
namespace Go.Proofs.Ytjenbegobpfclaa.Tx
open Go.RowKit Go.Proofs.Ytjenbegobpfclaa.Man Go.Proofs.YtjenbegobpfclaaW.PrintWords Go.Proofs.YtjenbegobpfclaaW.PrintLast Go.Proofs.YtjenbegobpfclaaW.PrintMore Go.Proofs.Ytjenbegobpfclaa.RTextAll Go.Proofs.Ytjenbegobpfclaa.Tp
attribute [local go_sem] err_eql err_neq err_nil_eql err_nil_neq
theorem str_of {w : World} {A : Option Addr} {c : Nat} {l : List Int} (h : (Kd.int .u8).C w A l.length l) : (convert 34 9 (.slice A l.length c)).run Try.prog w = .ok (.string (strOfNums l)) w :=
  Kd.C_string (P := Try.prog) (A := A) (c := c) Try.underlying34 Try.underlying5 Try.underlying9 h
set_option maxRecDepth 100000 in
set_option maxHeartbeats 4000000 in
theorem back_in (W : World) (A : Option Addr) (c : Nat) (l : List Int) (s : ByteArray) (hC : Kd.C (Kd.int .u8) W A l.length l) (hc : l.length ≤ c) (hl : Byts l) (hs : l.length ≤ 1000) (hs2 : s.size ≤ 1000) :
    Calls Try.prog 6 #[.slice A l.length c, .string s] W fun e w' => e = .returned (.bool true) ∧ Below W.heap.size W w' := by
  have hu25 := Try.underlying25
  have hu28 := Try.underlying28
  have CU := Aside0.mk (fun W5 : World => up_calls W5)
  have l1 : decide (((l.length : Nat) : Int) > 1000) = false := decide_eq_false (by omega)
  have l1' : (1000 < l.length) = False := eq_false (by omega)
  have l2 : decide (((s.size : Nat) : Int) > 1000) = false := decide_eq_false (by omega)
  have l2' : (1000 < s.size) = False := eq_false (by omega)
  have CQ := Aside0.mk (fun (W5 : World) (h5 : Below W.heap.size W W5) => quote_calls W5 A c l (Kd.C_below hC h5) hc hl (by omega))
  have hql := quo_len l
  have hqs : (⟨(quo l).toArray⟩ : ByteArray).size ≤ 1000000 := by rw [arr_size]; omega
  have CB := Aside0.mk (fun W5 : World => bytes_calls W5 ⟨(quo l).toArray⟩ hqs 12 _ (bys_quote l hl hs))
  have HA := Aside0.mk hC
  have hL := both_law (rest s) (sw s bminus)
  obtain ⟨b, hb⟩ : ∃ b, body 32 (rest s) (sw s bminus) = b := ⟨_, rfl⟩
  obtain ⟨v, e⟩ := b
  obtain ⟨b2, hb2⟩ : ∃ b, body 64 (rest s) (sw s bminus) = b := ⟨_, rfl⟩
  obtain ⟨v2, f⟩ := b2
  have hi : text_Int.f (0 + 4) s 32 = some (v, e) := by rw [int_f 32 (.inl rfl) s (by omega) 0, hb]
  have hj : text_Int.f (0 + 4) s 64 = some (v2, f) := by rw [int_f 64 (.inr rfl) s (by omega) 0, hb2]
  have CI := Aside0.mk (fun W5 : World => text_Int.calls (0 + 4) s 32 _ _ W5 hi)
  have CJ := Aside0.mk (fun W5 : World => text_Int.calls (0 + 4) s 64 _ _ W5 hj)
  rw [hb, hb2] at hL
  clear hi hj hb hb2 hC hl hc hs hs2 hql hqs
  have e0 : errW none = .nilIface := rfl
  cases e with
  | some d =>
    have e8 : errW (some d) = .iface 28 (.int .i64 d) := rfl
    rw [e8] at CI
    clear hL e8
    go_enter Try.func6, Try.ntmps6
    go_upto_region 2 with (go_at_call 8; (refine (CU.out _).mono ?_); rintro e1 w1 ⟨rfl, hB1⟩; have HB1 := Aside0.mk hB1; clear hB1)
    go_upto_region 5 with (first
      | (go_at_call 12; (refine (CQ.out _ HB1.out).mono ?_); rintro e2 w2 ⟨rfl, hB2⟩; have HB2 := Aside0.mk (HB1.out.trans (hB2.mono HB1.out.size)); clear hB2)
      | (go_at_call 14; (refine (CB.out _).mono ?_); rintro e3 w3 ⟨A3, c3, rfl, hR3, hB3⟩; have HB3 := Aside0.mk (HB2.out.trans (hB3.mono HB2.out.size)); have HR3 := Aside0.mk hR3; clear hB3 hR3))
    have j1 := str_of (c := c3) (Kd.R_reads' HR3.out).2.2
    have j2 := str_of (c := c) (Kd.C_below HA.out HB3.out)
    go_upto_region 7 with fail
    go_upto_region 8 with (go_at_call 9; (refine (CI.out _).mono ?_); rintro e4 w4 ⟨rfl, hB4⟩; have HB4 := Aside0.mk (HB3.out.trans (hB4.mono HB3.out.size)); clear hB4)
    go_upto_region 9 with (go_at_call 9; (refine (CJ.out _).mono ?_); rintro e5 w5 ⟨rfl, hB5⟩; have HB5 := Aside0.mk (HB4.out.trans (hB5.mono HB4.out.size)); clear hB5)
    go_wp2_with fail
    go_ret
    exact ⟨by simp, HB5.out⟩
  | none =>
    rw [e0] at CI
    by_cases hv : v < 2147483648
    · have hL' : f = none ∧ v = v2 := by have := hL; rw [if_pos ⟨rfl, hv⟩] at this; exact this
      obtain ⟨hf, hvv⟩ := hL'
      subst hf hvv
      rw [e0] at CJ
      have d1 : decide (v < 2147483648) = true := decide_eq_true hv
      clear hL hv
      go_enter Try.func6, Try.ntmps6
      go_upto_region 2 with (go_at_call 8; (refine (CU.out _).mono ?_); rintro e1 w1 ⟨rfl, hB1⟩; have HB1 := Aside0.mk hB1; clear hB1)
      go_upto_region 5 with (first
        | (go_at_call 12; (refine (CQ.out _ HB1.out).mono ?_); rintro e2 w2 ⟨rfl, hB2⟩; have HB2 := Aside0.mk (HB1.out.trans (hB2.mono HB1.out.size)); clear hB2)
        | (go_at_call 14; (refine (CB.out _).mono ?_); rintro e3 w3 ⟨A3, c3, rfl, hR3, hB3⟩; have HB3 := Aside0.mk (HB2.out.trans (hB3.mono HB2.out.size)); have HR3 := Aside0.mk hR3; clear hB3 hR3))
      have j1 := str_of (c := c3) (Kd.R_reads' HR3.out).2.2
      have j2 := str_of (c := c) (Kd.C_below HA.out HB3.out)
      go_upto_region 7 with fail
      go_upto_region 8 with (go_at_call 9; (refine (CI.out _).mono ?_); rintro e4 w4 ⟨rfl, hB4⟩; have HB4 := Aside0.mk (HB3.out.trans (hB4.mono HB3.out.size)); clear hB4)
      go_upto_region 9 with (go_at_call 9; (refine (CJ.out _).mono ?_); rintro e5 w5 ⟨rfl, hB5⟩; have HB5 := Aside0.mk (HB4.out.trans (hB5.mono HB4.out.size)); clear hB5)
      go_wp2_with fail
      go_ret
      exact ⟨by simp, HB5.out⟩
    · have hL' : f = none := by
        have := hL
        rw [if_neg (fun h => hv h.2)] at this
        rcases this with h | h
        · exact absurd rfl h
        · exact h
      subst hL'
      rw [e0] at CJ
      have d1 : decide (v < 2147483648) = false := decide_eq_false hv
      clear hL hv
      go_enter Try.func6, Try.ntmps6
      go_upto_region 2 with (go_at_call 8; (refine (CU.out _).mono ?_); rintro e1 w1 ⟨rfl, hB1⟩; have HB1 := Aside0.mk hB1; clear hB1)
      go_upto_region 5 with (first
        | (go_at_call 12; (refine (CQ.out _ HB1.out).mono ?_); rintro e2 w2 ⟨rfl, hB2⟩; have HB2 := Aside0.mk (HB1.out.trans (hB2.mono HB1.out.size)); clear hB2)
        | (go_at_call 14; (refine (CB.out _).mono ?_); rintro e3 w3 ⟨A3, c3, rfl, hR3, hB3⟩; have HB3 := Aside0.mk (HB2.out.trans (hB3.mono HB2.out.size)); have HR3 := Aside0.mk hR3; clear hB3 hR3))
      have j1 := str_of (c := c3) (Kd.R_reads' HR3.out).2.2
      have j2 := str_of (c := c) (Kd.C_below HA.out HB3.out)
      go_upto_region 7 with fail
      go_upto_region 8 with (go_at_call 9; (refine (CI.out _).mono ?_); rintro e4 w4 ⟨rfl, hB4⟩; have HB4 := Aside0.mk (HB3.out.trans (hB4.mono HB3.out.size)); clear hB4)
      go_upto_region 9 with (go_at_call 9; (refine (CJ.out _).mono ?_); rintro e5 w5 ⟨rfl, hB5⟩; have HB5 := Aside0.mk (HB4.out.trans (hB5.mono HB4.out.size)); clear hB5)
      go_wp2_with fail
      go_ret
      exact ⟨by simp, HB5.out⟩
set_option maxHeartbeats 4000000 in
theorem back (W : World) (A : Option Addr) (c : Nat) (l : List Int) (s : ByteArray) (hC : Kd.C (Kd.int .u8) W A l.length l) (hc : l.length ≤ c) (hl : Byts l) :
    Calls Try.prog 6 #[.slice A l.length c, .string s] W fun e w' => e = .returned (.bool true) ∧ Below W.heap.size W w' := by
  by_cases h1 : l.length ≤ 1000
  · by_cases h2 : s.size ≤ 1000
    · exact back_in W A c l s hC hc hl h1 h2
    · have CU := Aside0.mk (fun W5 : World => up_calls W5)
      have l1 : decide (((l.length : Nat) : Int) > 1000) = false := decide_eq_false (by omega)
      have l1' : (1000 < l.length) = False := eq_false (by omega)
      have l2 : decide (((s.size : Nat) : Int) > 1000) = true := decide_eq_true (by omega)
      have l2' : (1000 < s.size) = True := eq_true (by omega)
      clear h1 h2 hC hl hc
      go_enter Try.func6, Try.ntmps6
      go_wp2_with (go_at_call 8; (refine (CU.out _).mono ?_); rintro e1 w1 ⟨rfl, hB1⟩; have HB1 := Aside0.mk hB1; clear hB1)
      go_ret
      exact ⟨rfl, HB1.out⟩
  · have CU := Aside0.mk (fun W5 : World => up_calls W5)
    have l1 : decide (((l.length : Nat) : Int) > 1000) = true := decide_eq_true (by omega)
    have l1' : (1000 < l.length) = True := eq_true (by omega)
    clear h1 hC hl hc
    go_enter Try.func6, Try.ntmps6
    go_wp2_with (go_at_call 8; (refine (CU.out _).mono ?_); rintro e1 w1 ⟨rfl, hB1⟩; have HB1 := Aside0.mk hB1; clear hB1)
    go_ret
    exact ⟨rfl, HB1.out⟩
end Go.Proofs.Ytjenbegobpfclaa.Tx
