/- TextInts, TextMinus: the walks. -/
import Derived.Test.YtjenbegobpfclaaTp2
import Derived.Test.YtjenbegobpfclaaUp
set_option linter.unusedVariables false
set_option linter.unusedSimpArgs false
namespace Go.Proofs.Ytjenbegobpfclaa.Tx
open Go.RowKit Go.Proofs.Ytjenbegobpfclaa.Man Go.Proofs.YtjenbegobpfclaaW.PrintWords Go.Proofs.YtjenbegobpfclaaW.PrintLast Go.Proofs.YtjenbegobpfclaaW.PrintMore Go.Proofs.Ytjenbegobpfclaa.RTextAll Go.Proofs.Ytjenbegobpfclaa.Tp
attribute [local go_sem] err_eql err_neq err_nil_eql err_nil_neq
set_option maxHeartbeats 4000000 in
theorem ints (W : World) (s : ByteArray) (n : Int) : Calls Try.prog 3 #[.string s, .int .i64 n] W fun e w' => e = .returned (.bool true) ∧ Below W.heap.size W w' := by
  have hu25 := Try.underlying25
  have hu28 := Try.underlying28
  have CU := Aside0.mk (fun W5 : World => up_calls W5)
  by_cases hs : s.size ≤ 1000
  · have l1 : decide (((s.size : Nat) : Int) > 1000) = false := decide_eq_false (by omega)
    by_cases hn : n = 32 ∨ n = 64
    · obtain ⟨b, hb⟩ : ∃ b, body n (rest s) (sw s bminus) = b := ⟨_, rfl⟩
      obtain ⟨v, e⟩ := b
      have hi : text_Int.f (0 + 4) s n = some (v, e) := by rw [int_f n hn s (by omega) 0, hb]
      have hr : grommetref11_Int.f (6000 + 8) s n = some (v, codeOf e) := by rw [rint_f n hn s hs 6000 (by omega), hb]; rfl
      have CI := Aside0.mk (fun W5 : World => text_Int.calls (0 + 4) s n _ _ W5 hi)
      have CR := Aside0.mk (fun W5 : World => grommetref11_Int.calls (6000 + 8) s n _ _ W5 hr)
      have CC := Aside0.mk (fun W5 : World => grommetlaw00_Code.calls 0 e (codeOf e) W5 rfl)
      have ea : (n != 32) = false ∨ ((n != 32) = true ∧ (n != 64) = false) := by
        rcases hn with rfl | rfl
        · exact .inl (by decide)
        · exact .inr ⟨by decide, by decide⟩
      clear hi hr hb hs hn
      go_enter Try.func3, Try.ntmps3
      go_upto_region 2 with (go_at_call 8; (refine (CU.out _).mono ?_); rintro e1 w1 ⟨rfl, hB1⟩; have HB1 := Aside0.mk hB1; clear hB1)
      go_upto_region 5 with (go_at_call 9; (refine (CI.out _).mono ?_); rintro e2 w2 ⟨rfl, hB2⟩; have HB2 := Aside0.mk (HB1.out.trans (hB2.mono HB1.out.size)); clear hB2)
      rcases ea with ea | ⟨ea, eb⟩
      · go_upto_region 8 with (go_at_call 10; (refine (CR.out _).mono ?_); rintro e3 w3 ⟨rfl, hB3⟩; have HB3 := Aside0.mk (HB2.out.trans (hB3.mono HB2.out.size)); clear hB3)
        go_wp2_with (go_at_call 11; (refine (CC.out _).mono ?_); rintro e4 w4 ⟨rfl, hD⟩; have HB4 := Aside0.mk (HB3.out.trans (hD.below.mono HB3.out.size)); clear hD)
        go_ret
        exact ⟨by simp, HB4.out⟩
      · go_upto_region 8 with (go_at_call 10; (refine (CR.out _).mono ?_); rintro e3 w3 ⟨rfl, hB3⟩; have HB3 := Aside0.mk (HB2.out.trans (hB3.mono HB2.out.size)); clear hB3)
        go_wp2_with (go_at_call 11; (refine (CC.out _).mono ?_); rintro e4 w4 ⟨rfl, hD⟩; have HB4 := Aside0.mk (HB3.out.trans (hD.below.mono HB3.out.size)); clear hD)
        go_ret
        exact ⟨by simp, HB4.out⟩
    · have h1 : n ≠ 32 := fun h => hn (.inl h)
      have h2 : n ≠ 64 := fun h => hn (.inr h)
      have CI := Aside0.mk (fun W5 : World => text_Int.calls (0 + 1) s n _ _ W5 (int_bad n h1 h2 s 0))
      have ea : (n != 32) = true := bne_iff_ne.2 h1
      have eb : (n != 64) = true := bne_iff_ne.2 h2
      have e1 : errW (some 1) = .iface 28 (.int .i64 1) := rfl
      clear hs hn h1 h2
      go_enter Try.func3, Try.ntmps3
      go_upto_region 2 with (go_at_call 8; (refine (CU.out _).mono ?_); rintro e1 w1 ⟨rfl, hB1⟩; have HB1 := Aside0.mk hB1; clear hB1)
      go_upto_region 5 with (go_at_call 9; (refine (CI.out _).mono ?_); rintro e2 w2 ⟨rfl, hB2⟩; have HB2 := Aside0.mk (HB1.out.trans (hB2.mono HB1.out.size)); clear hB2)
      go_wp2_with fail
      go_ret
      exact ⟨rfl, HB2.out⟩
  · have l1 : decide (((s.size : Nat) : Int) > 1000) = true := decide_eq_true (by omega)
    clear hs
    go_enter Try.func3, Try.ntmps3
    go_wp2_with (go_at_call 8; (refine (CU.out _).mono ?_); rintro e1 w1 ⟨rfl, hB1⟩; have HB1 := Aside0.mk hB1; clear hB1)
    go_ret
    exact ⟨rfl, HB1.out⟩
theorem sw_mcons (s : ByteArray) : sw (⟨#[45]⟩ ++ s) bminus = true ∧ rest (⟨#[45]⟩ ++ s) = s := by
  have hsz : ((⟨#[45]⟩ : ByteArray) ++ s).size = 1 + s.size := by rw [ByteArray.size_append]; rfl
  have e1 : bminus.size = 1 := rfl
  have h1 : sw (⟨#[45]⟩ ++ s) bminus = true := by
    unfold sw
    rw [decide_eq_true (by omega), Bool.true_and, Lib.toList_data, Lib.toList_data, ByteArray.data_extract, Array.toList_extract]
    simp [List.extract, ByteArray.data_append]
    rfl
  refine ⟨h1, ?_⟩
  unfold rest
  rw [if_pos h1, hsz]
  apply ByteArray.ext
  rw [ByteArray.data_extract]
  apply Array.ext'
  rw [Array.toList_extract]
  simp [List.extract, ByteArray.data_append]
  rw [Lib.size_eq]
  exact List.take_length
set_option maxHeartbeats 4000000 in
theorem minus (W : World) (s : ByteArray) : Calls Try.prog 4 #[.string s] W fun e w' => e = .returned (.bool true) ∧ Below W.heap.size W w' := by
  have hu25 := Try.underlying25
  have hu28 := Try.underlying28
  have CU := Aside0.mk (fun W5 : World => up_calls W5)
  by_cases hs : s.size ≤ 1000
  · have l1 : decide (((s.size : Nat) : Int) > 1000) = false := decide_eq_false (by omega)
    by_cases hz : s.size = 0
    · have l2 : (((s.size : Nat) : Int) == 0) = true := by simp [hz]
      clear hs hz
      go_enter Try.func4, Try.ntmps4
      go_wp2_with (go_at_call 8; (refine (CU.out _).mono ?_); rintro e1 w1 ⟨rfl, hB1⟩; have HB1 := Aside0.mk hB1; clear hB1)
      go_ret
      exact ⟨rfl, HB1.out⟩
    · have l2 : (((s.size : Nat) : Int) == 0) = false := by simp [hz]
      have hx : ∀ h : 0 < s.size, ((s[0]'h).toNat : Int) = bt s 0 := fun h => bt_at s 0 h
      have p0 : (0 < s.size) = True := eq_true (by omega)
      have p9 : (9223372036854775807 < 1 + s.size) = False := eq_false (by omega)
      by_cases h45 : bt s 0 = 45
      · have c1 : (bt s 0 == 45) = true := beq_iff_eq.2 h45
        clear hs hz h45
        go_enter Try.func4, Try.ntmps4
        go_wp2_with (go_at_call 8; (refine (CU.out _).mono ?_); rintro e1 w1 ⟨rfl, hB1⟩; have HB1 := Aside0.mk hB1; clear hB1)
        go_ret
        exact ⟨rfl, HB1.out⟩
      · have c1 : (bt s 0 == 45) = false := beq_eq_false_iff_ne.2 h45
        by_cases h43 : bt s 0 = 43
        · have c2 : (bt s 0 == 43) = true := beq_iff_eq.2 h43
          clear hs hz h45 h43
          go_enter Try.func4, Try.ntmps4
          go_wp2_with (go_at_call 8; (refine (CU.out _).mono ?_); rintro e1 w1 ⟨rfl, hB1⟩; have HB1 := Aside0.mk hB1; clear hB1)
          go_ret
          exact ⟨rfl, HB1.out⟩
        · have c2 : (bt s 0 == 43) = false := beq_eq_false_iff_ne.2 h43
          obtain ⟨r1, r2⟩ := rest_plain s h45 h43
          obtain ⟨m1, m2⟩ := sw_mcons s
          have hL := minus_law s
          obtain ⟨b, hb⟩ : ∃ b, body 64 s false = b := ⟨_, rfl⟩
          obtain ⟨v, e⟩ := b
          obtain ⟨b2, hb2⟩ : ∃ b, body 64 s true = b := ⟨_, rfl⟩
          obtain ⟨v2, f⟩ := b2
          have hi : text_Int.f (0 + 4) s 64 = some (v, e) := by rw [int_f 64 (.inr rfl) s (by omega) 0, r1, r2, hb]
          have hj : text_Int.f (0 + 4) (⟨#[45]⟩ ++ s) 64 = some (v2, f) := by rw [int_f 64 (.inr rfl) _ (by rw [ByteArray.size_append]; show 1 + s.size ≤ _; omega) 0, m2, m1, hb2]
          have CI := Aside0.mk (fun W5 : World => text_Int.calls (0 + 4) s 64 _ _ W5 hi)
          have CJ := Aside0.mk (fun W5 : World => text_Int.calls (0 + 4) (⟨#[45]⟩ ++ s) 64 _ _ W5 hj)
          rw [hb, hb2] at hL
          clear hi hj hb hb2 m1 m2 r1 r2 hs hz h45 h43
          have e0 : errW none = .nilIface := rfl
          have e7 : errW (some 7) = .iface 28 (.int .i64 7) := rfl
          cases e with
          | some c =>
            obtain ⟨d, hd⟩ := hL
            have hd' : f = some d := hd
            subst hd'
            have e8 : errW (some c) = .iface 28 (.int .i64 c) := rfl
            have e9 : errW (some d) = .iface 28 (.int .i64 d) := rfl
            rw [e8] at CI
            rw [e9] at CJ
            clear hd e8 e9
            go_enter Try.func4, Try.ntmps4
            go_upto_region 2 with (go_at_call 8; (refine (CU.out _).mono ?_); rintro e1 w1 ⟨rfl, hB1⟩; have HB1 := Aside0.mk hB1; clear hB1)
            go_upto_region 5 with (go_at_call 9; (refine (CI.out _).mono ?_); rintro e2 w2 ⟨rfl, hB2⟩; have HB2 := Aside0.mk (HB1.out.trans (hB2.mono HB1.out.size)); clear hB2)
            go_upto_region 6 with (go_at_call 9; (refine (CJ.out _).mono ?_); rintro e3 w3 ⟨rfl, hB3⟩; have HB3 := Aside0.mk (HB2.out.trans (hB3.mono HB2.out.size)); clear hB3)
            go_wp2_with fail
            go_ret
            exact ⟨rfl, HB3.out⟩
          | none =>
            have hL' : if v > 9223372036854775808 then f = some 7 else f = none ∧ (v + v2) % 18446744073709551616 = 0 := hL
            clear hL
            rw [e0] at CI
            by_cases hg : v > 9223372036854775808
            · rw [if_pos hg] at hL'
              subst hL'
              rw [e7] at CJ
              have d1 : decide (v > 9223372036854775808) = true := decide_eq_true hg
              clear hg
              go_enter Try.func4, Try.ntmps4
              go_upto_region 2 with (go_at_call 8; (refine (CU.out _).mono ?_); rintro e1 w1 ⟨rfl, hB1⟩; have HB1 := Aside0.mk hB1; clear hB1)
              go_upto_region 5 with (go_at_call 9; (refine (CI.out _).mono ?_); rintro e2 w2 ⟨rfl, hB2⟩; have HB2 := Aside0.mk (HB1.out.trans (hB2.mono HB1.out.size)); clear hB2)
              go_upto_region 6 with (go_at_call 9; (refine (CJ.out _).mono ?_); rintro e3 w3 ⟨rfl, hB3⟩; have HB3 := Aside0.mk (HB2.out.trans (hB3.mono HB2.out.size)); clear hB3)
              go_wp2_with fail
              go_ret
              exact ⟨rfl, HB3.out⟩
            · rw [if_neg hg] at hL'
              obtain ⟨hf, hsum⟩ := hL'
              subst hf
              rw [e0] at CJ
              have d1 : decide (v > 9223372036854775808) = false := decide_eq_false hg
              have d2 : IntKind.u64.wrap (v + v2) = 0 := by rw [IntKind.wrap_u64]; exact hsum
              clear hg hsum
              go_enter Try.func4, Try.ntmps4
              go_upto_region 2 with (go_at_call 8; (refine (CU.out _).mono ?_); rintro e1 w1 ⟨rfl, hB1⟩; have HB1 := Aside0.mk hB1; clear hB1)
              go_upto_region 5 with (go_at_call 9; (refine (CI.out _).mono ?_); rintro e2 w2 ⟨rfl, hB2⟩; have HB2 := Aside0.mk (HB1.out.trans (hB2.mono HB1.out.size)); clear hB2)
              go_upto_region 6 with (go_at_call 9; (refine (CJ.out _).mono ?_); rintro e3 w3 ⟨rfl, hB3⟩; have HB3 := Aside0.mk (HB2.out.trans (hB3.mono HB2.out.size)); clear hB3)
              go_wp2_with fail
              go_ret
              exact ⟨rfl, HB3.out⟩
  · have l1 : decide (((s.size : Nat) : Int) > 1000) = true := decide_eq_true (by omega)
    clear hs
    go_enter Try.func4, Try.ntmps4
    go_wp2_with (go_at_call 8; (refine (CU.out _).mono ?_); rintro e1 w1 ⟨rfl, hB1⟩; have HB1 := Aside0.mk hB1; clear hB1)
    go_ret
    exact ⟨rfl, HB1.out⟩
end Go.Proofs.Ytjenbegobpfclaa.Tx
