import Derived.Test.YtefihkcmlmapoaaMem24
namespace Go.Proofs.Ytefihkcmlmapoaa.Mem
open Go.RowKit Go.Proofs.YtefihkcmlmapoaaW.PrintWords Go.Proofs.YtefihkcmlmapoaaW.PrintLast Go.Proofs.YtefihkcmlmapoaaW.PrintMore Go.Proofs.Ytefihkcmlmapoaa.PMemHalves
set_option linter.unusedVariables false
set_option linter.unusedSimpArgs false
theorem grow_any {w : World} {base g n c : Nat} {A : Option Addr} {most : Int} {xs : List Int} (h : Mm w base 55 g A n c xs most) (hbase : base ≤ w.heap.size) (hn : n ≤ 4096) (hmod : n % 256 = 0) (k : Int) (k0 : 0 ≤ k) (hm1 : (n : Int) / 256 ≤ most) (hm2 : most ≤ 16) :
    Calls Try.prog 17 #[.pointer (some ⟨g, 0, none⟩), .int .u64 k] w fun e w' => ∃ A' n' c' zs z, e = .returned (.int .u64 z) ∧ Mm w' base 55 g A' n' c' (xs ++ zs) most ∧ (n ≤ n' ∧ n' ≤ 4096) ∧ w.grownBy w' (some g) := by
  by_cases hk : k ≤ most - (n : Int) / 256
  · obtain ⟨j, rfl⟩ := Int.eq_ofNat_of_zero_le k0
    exact (grow_ok h hbase hn j hm1 hm2 hk).mono fun e w' ⟨A', c', he, hM, hG, _⟩ => ⟨A', _, c', _, _, he, hM, by omega, hG⟩
  · refine (grow_no h hn k hm1 hm2 (by omega)).mono fun e w' ⟨he, hD⟩ => ⟨A, n, c, [], _, he, ?_, by omega, grown_of_drawn hD _⟩
    obtain ⟨j, rfl⟩ := hD
    rw [List.append_nil]
    exact h.drewN j
/-- The first bytes of a slice, as a text. -/
theorem Bs.pre {w : World} {base : Nat} {A : Option Addr} {n c : Nat} {xs ys : List Int} (h : Bs w base A n c (xs ++ ys)) (m : Nat) (hm : xs.length = m) : (convert 40 9 (.slice A m c)).run Try.prog w = .ok (.string (strOfNums xs)) w := by
  rcases h.cases with ⟨rfl, rfl, rfl, hx⟩ | ⟨b, rfl, _, _⟩
  · obtain ⟨rfl, rfl⟩ := List.append_eq_nil_iff.1 hx
    subst hm
    rw [run_convert_bytes_nil w 40 5 Try.underlying40 Try.underlying5 _ 0 9 Try.underlying9]
    rfl
  · refine run_convert_bytes_arg w 40 5 Try.underlying40 Try.underlying5 b 0 m c xs hm (fun i hi => ?_) 9 Try.underlying9
    have hl := h.len
    rw [List.length_append] at hl
    rw [Nat.zero_add, h.cell i (by omega)]
    simp [List.getD, List.getElem?_append_left (show i < xs.length by omega)]
theorem Bs.str' {w : World} {base : Nat} {A : Option Addr} {n c : Nat} {xs : List Int} (h : Bs w base A n c xs) : (convert 40 9 (.slice A n c)).run Try.prog w = .ok (.string (strOfNums xs)) w :=
  Bs.pre (ys := []) (by rw [List.append_nil]; exact h) n h.len
set_option maxRecDepth 100000 in
set_option maxHeartbeats 16000000 in
theorem keeps_yes (w : World) (lo hi : Int) (has : Bool) (at_ n v more : Int) (a0 : 0 ≤ at_) (a1 : at_ < 18446744073709551616) (n0 : -9223372036854775808 ≤ n) (n1 : n < 9223372036854775808) (v0 : 0 ≤ v) (v1 : v < 18446744073709551616) (k0 : 0 ≤ more) (h : may lo hi has) :
    Calls Try.prog 5 #[.agg #[.int .i64 lo, .int .i64 hi, .bool has], .int .u64 at_, .int .i64 n, .int .u64 v, .int .u64 more] w fun e w' => e = .returned (.bool true) ∧ Below w.heap.size w w' := by
  have hm := may_t h
  have h0 := h.1
  have h1 := h.2.1
  obtain ⟨most, hmost⟩ : ∃ most, most = (if has = true then hi else 16) := ⟨_, rfl⟩
  obtain ⟨nn, hn⟩ : ∃ nn, nn = (lo * 256).toNat := ⟨_, rfl⟩
  have hn1 : (nn : Int) / 256 ≤ most := by
    have := h.2.2
    rw [hmost]
    split
    · have := this (by assumption)
      omega
    · omega
  have hmo2 : most ≤ 16 := by
    have := h.2.2
    rw [hmost]
    split
    · have := this (by assumption)
      omega
    · omega
  have hn2 : nn ≤ 4096 := by omega
  have hn3 : nn % 256 = 0 := by omega
  have nw : ∀ W : World, Calls Try.prog 10 #[.agg #[.int .i64 lo, .int .i64 hi, .bool has]] W (MNew W most nn) := fun W => by rw [hmost, hn]; exact mnew W lo hi has h
  have NW := Aside0.mk nw
  have N1 := Aside0.mk hn1
  have N2 := Aside0.mk hn2
  have MO := Aside0.mk hmo2
  have N3 := Aside0.mk hn3
  clear hn hmost hn1 hn2 nw h h0 h1 hmo2 hn3
  go_enter Try.func5, Try.ntmps5
  go_wp2_with (first | (go_at_call 8; (refine (up_lim _ _).mono ?_); rintro e w1 ⟨rfl, hR1, hB1⟩; have q0 := hR1.cell 0; have q1 := hR1.cell 1; have q2 := hR1.cell 2; simp only [List.getElem?_toArray, List.getElem?_cons_zero, List.getElem?_cons_succ] at q0 q1 q2) | (go_at_call 9; (refine (grommetref15_May.calls lo hi has true _ hm).mono ?_); rintro e w2 ⟨rfl, hB2⟩; have hR2 := hR1.below hB2 hR1.lt; have hB12 := below_then hB1 hB1.size hB2; clear q0 q1 q2 hR1 hB1 hB2; have q0 := hR2.cell 0; have q1 := hR2.cell 1; have q2 := hR2.cell 2; simp only [List.getElem?_toArray, List.getElem?_cons_zero, List.getElem?_cons_succ] at q0 q1 q2) | (go_at_call 10; (refine (NW.out _).mono ?_); rintro e w3 ⟨g, A, c, rfl, hM3, hB3⟩; have hB13 := below_then hB12 hB12.size hB3; have hM3' := hM3.mono (base' := w.heap.size) hB12.size; clear q0 q1 q2 hR2 hM3 hB12 hB3))
  obtain ⟨xs0, hxs0⟩ : ∃ xs0, xs0 = List.replicate nn (0 : Int) := ⟨_, rfl⟩
  rw [← hxs0] at hM3'
  refine (store_all hM3' N2.out 0 8 72623859790382856 (by decide) (by decide)).mono ?_
  rintro e w4 ⟨rfl, hM4, hG4⟩
  go_wp2_with fail
  obtain ⟨xs1, hxs1⟩ : ∃ xs1, xs1 = putI xs0 0 8 72623859790382856 := ⟨_, rfl⟩
  rw [← hxs1] at hM4
  have hz3 : w.heap.size ≤ w3.heap.size := hB13.size
  have hB14 := hB13.trans (below_of hG4 hz3 (fun k hk => (hM3'.ge hk).1))
  refine (bytes_calls hM4 (by have := N2.out; omega)).mono ?_
  rintro e w5 ⟨A5, c5, rfl, hW5, hB5⟩
  have hM5 := hM4.below' hB5
  have hB15 := below_then hB14 hB14.size hB5
  have HS1 := Aside0.mk hxs1
  clear hM3' hG4 hB13 hB14 hxs0 hxs1
  go_wp2_with fail
  refine (store_all hM5 N2.out at_ n v a0 a1).mono ?_
  rintro e w6 ⟨rfl, hM6, hG6⟩
  obtain ⟨ok, hok⟩ : ∃ ok, ok = inM nn at_ n := ⟨_, rfl⟩
  obtain ⟨xs2, hxs2⟩ : ∃ xs2, xs2 = putI xs1 at_ n v := ⟨_, rfl⟩
  rw [← hxs2] at hM6
  rw [← hok]
  have hW6 := hW5.stays hG6 (fun k hk => (hM4.ge hk).2)
  have hB16 := hB15.trans (below_of hG6 hB15.size (fun k hk => (hM5.ge hk).1))
  clear hM5 hG6 hB15 hW5
  have HOK := Aside0.mk hok
  have HS2 := Aside0.mk hxs2
  clear hok hxs2
  go_wp2_with fail
  refine (bytes_calls hM6 (by have := N2.out; omega)).mono ?_
  rintro e w7 ⟨A7, c7, rfl, hX7, hB7⟩
  have hM7 := hM6.below' hB7
  have hW7 := hW6.below' hB7
  have hB17 := below_then hB16 hB16.size hB7
  have GL := Aside0.mk hM6.row.lt
  clear hM6 hW6 hB16 hM4
  have HM7 := Aside0.mk hM7
  have HW7 := Aside0.mk hW7
  have HX7 := Aside0.mk hX7
  have HB17 := Aside0.mk hB17
  clear hM7 hW7 hX7 hB17 hB5 hB7
  go_wp2_with fail
  go_loopg [18] nn (fun kq v18 w' => ∃ j : Nat, v18 = .int .i64 j ∧ j + kq = nn ∧ Drawn0 w7 w')
  case atStart => exact ⟨0, rfl, by omega, Drawn0.refl _⟩
  case round =>
    obtain ⟨j, rfl, hj, ⟨nd, rfl⟩⟩ := hrel
    cases gk with
    | zero =>
      obtain rfl : j = nn := by omega
      have d1 : decide ((j : Int) < (j : Int)) = false := decide_eq_false (by omega)
      go_wp2_with fail
      refine (grow_any (HM7.out.drewN nd) (HB17.out.size) N2.out N3.out more k0 N1.out MO.out).mono ?_
      rintro e w8 ⟨A8, n8, c8, zs, z, rfl, hM8, hn8, hG8⟩
      have hX8 := (HX7.out.drewN nd).stays hG8 (fun k hk => by injection hk with hk; subst hk; exact GL.out)
      have hB18 := (pw_below_drewN HB17.out nd).trans (below_of hG8 HB17.out.size (fun k hk => by injection hk with hk; subst hk; exact HM7.out.lo))
      have HM8 := Aside0.mk hM8
      have HX8 := Aside0.mk hX8
      have HB18 := Aside0.mk hB18
      clear hM8 hX8 hG8 hB18
      go_wp2_with fail
      have hload := load_all HM8.out hn8.2 at_ n a0 a1
      obtain ⟨lv, hlv⟩ : ∃ lv, lv = getI (xs2 ++ zs) at_ n := ⟨_, rfl⟩
      obtain ⟨li, hli⟩ : ∃ li, li = inM n8 at_ n := ⟨_, rfl⟩
      rw [← hlv, ← hli] at hload
      have HLV := Aside0.mk hlv
      have HLI := Aside0.mk hli
      clear hlv hli
      refine hload.mono ?_
      rintro e w9 ⟨rfl, ⟨nd9, rfl⟩⟩
      go_wp2_with fail
      refine (bytes_calls (HM8.out.drewN nd9) (by omega)).mono ?_
      rintro e w10 ⟨A10, c10, rfl, hX10, hB10⟩
      have hN10 := (HX8.out.drewN nd9).below' hB10
      have hB110 := below_step (pw_below_drewN HB18.out nd9) hB10
      have k1 : ∀ k, (convert 40 9 (.slice A10 j c10)).run Try.prog (w10.drewN k) = .ok (.string (strOfNums xs2)) (w10.drewN k) := fun k => (hX10.drewN k).pre j HX7.out.len
      have k2 : ∀ k, (convert 40 9 (.slice A7 j c7)).run Try.prog (w10.drewN k) = .ok (.string (strOfNums xs2)) (w10.drewN k) := fun k => (hN10.drewN k).str'
      have hcap : n8 ≤ c10 := by
        rcases hX10.own.2 with ⟨hv, h0⟩ | ⟨b', cap, cur, hv, hb, hh, hnc, _⟩
        · omega
        · simp only [Value.slice.injEq] at hv; omega
      have hc2 : (j : Int) ≤ (c10 : Int) := by omega
      have dl : decide ((n8 : Int) < (j : Int)) = false := decide_eq_false (by omega)
      have dl2 : decide (n8 < j) = false := decide_eq_false (by omega)
      have HX10 := Aside0.mk hX10
      have HB110 := Aside0.mk hB110
      have HN8 := Aside0.mk hn8
      clear hX10 hN10 hB10 hB110
      cases ok with
      | false =>
        clear a1 v1 v0 a0 k0
        go_wp2
        go_quiet (fail)
        go_wp2
        go_ret
        exact ⟨rfl, pw_below_drewN HB110.out _⟩
      | true =>
        obtain ⟨hwi, hle⟩ := inM_true HOK.out.symm
        have hli2 : li = true := by
          rw [HLI.out]
          have hw := HOK.out.symm
          simp only [inM, Bool.and_eq_true, decide_eq_true_eq] at hw ⊢
          exact ⟨hw.1, by omega⟩
        have hlv2 : lv = v % 256 ^ n.toNat := by
          obtain ⟨a, rfl⟩ := Int.eq_ofNat_of_zero_le a0
          obtain ⟨m, rfl⟩ := Int.eq_ofNat_of_zero_le (show 0 ≤ n by omega)
          have hl1 : xs1.length = j := by have := HX7.out.len; rwa [HS2.out, putI_len] at this
          have e2 : xs2 = put xs1 a v m := by
            rw [HS2.out, putI, hl1, ← HOK.out, if_pos rfl]; rfl
          rw [HLV.out, getI, HM8.out.len, ← HLI.out, hli2, if_pos rfl, e2]
          exact keeps_get xs1 zs a m v (by omega)
        subst hli2
        have HLV2 := Aside0.mk hlv2
        clear hload hlv2
        rcases hwi with rfl | rfl | rfl | rfl
        · obtain rfl : lv = v % 256 := by
            rw [HLV2.out]
            first | rfl | (show v % 18446744073709551616 = v; omega)
          clear a1 v1 a0 k0 hle HLV2
          go_wp2
          go_quiet (fail)
          go_wp2
          go_ret
          exact ⟨rfl, pw_below_drewN HB110.out _⟩
        · obtain rfl : lv = v % 65536 := by
            rw [HLV2.out]
            first | rfl | (show v % 18446744073709551616 = v; omega)
          clear a1 v1 a0 k0 hle HLV2
          go_wp2
          go_quiet (fail)
          go_wp2
          go_ret
          exact ⟨rfl, pw_below_drewN HB110.out _⟩
        · obtain rfl : lv = v % 4294967296 := by
            rw [HLV2.out]
            first | rfl | (show v % 18446744073709551616 = v; omega)
          clear a1 v1 a0 k0 hle HLV2
          go_wp2
          go_quiet (fail)
          go_wp2
          go_ret
          exact ⟨rfl, pw_below_drewN HB110.out _⟩
        · obtain rfl : lv = v := by
            rw [HLV2.out]
            first | rfl | (show v % 18446744073709551616 = v; omega)
          clear a1 v1 a0 k0 hle HLV2
          go_wp2
          go_quiet (fail)
          go_wp2
          go_ret
          exact ⟨rfl, pw_below_drewN HB110.out _⟩
    | succ k2 =>
      have hjn : j < nn := by omega
      have hnb := N2.out
      obtain ⟨b7, hA7⟩ : ∃ b, A7 = some ⟨b, 0, none⟩ := by
        rcases HX7.out.cases with ⟨_, h0, _⟩ | ⟨b, hb, _⟩
        · omega
        · exact ⟨b, hb⟩
      obtain ⟨b5, hA5⟩ : ∃ b, A5 = some ⟨b, 0, none⟩ := by
        rcases HW7.out.cases with ⟨_, h0, _⟩ | ⟨b, hb, _⟩
        · omega
        · exact ⟨b, hb⟩
      subst hA7 hA5
      have d1 : decide ((j : Int) < (nn : Int)) = true := decide_eq_true (by omega)
      have d3 : decide (j < nn) = true := decide_eq_true (by omega)
      have cy : w7.cell? ⟨b7, j, none⟩ = some (.int .u8 (xs2.getD j 0)) := HX7.out.cell j hjn
      have cx : w7.cell? ⟨b5, j, none⟩ = some (.int .u8 (xs1.getD j 0)) := HW7.out.cell j hjn
      obtain ⟨y, hy⟩ : ∃ y, y = xs2.getD j 0 := ⟨_, rfl⟩
      rw [← hy] at cy
      have hyr : 0 ≤ y ∧ y < 256 := by rw [hy]; exact getD_range HM7.out.rng j
      by_cases hin : ok = true ∧ at_ ≤ j ∧ (j : Int) - at_ < n
      · obtain ⟨rfl, h2, h3⟩ := hin
        obtain ⟨hwi, hle⟩ := inM_true HOK.out.symm
        obtain ⟨a, rfl⟩ := Int.eq_ofNat_of_zero_le a0
        have hyv : y = v / 2 ^ (8 * (j - a)) % 256 := by
          rw [hy, HS2.out]
          unfold putI
          rw [HW7.out.len, ← HOK.out, if_pos rfl, Int.toNat_natCast]
          exact put_in _ _ _ _ _ (by omega) (by omega) (by rw [HW7.out.len]; omega)
        obtain ⟨d, hd⟩ : ∃ d, d = j - a := ⟨_, rfl⟩
        rw [← hd] at hyv
        have hd8 : d ≤ 7 := by omega
        have d2 : decide ((a : Int) ≤ (j : Int)) = true := decide_eq_true h2
        have ew : IntKind.u64.wrap ((j : Int) - (a : Int)) = (d : Int) := by rw [IntKind.wrap_u64]; omega
        have en : IntKind.u64.wrap n = n := by rw [IntKind.wrap_u64]; omega
        have d4 : decide ((d : Int) < n) = true := decide_eq_true (by omega)
        have e8 : IntKind.u64.wrap (8 * (d : Int)) = ((8 * d : Nat) : Int) := by rw [IntKind.wrap_u64]; omega
        have ed0 : decide ((d : Int) < 0) = false := decide_eq_false (by omega)
        have hmn : min (8 * (d : Int)).toNat 64 = 8 * d := by omega
        have hd0 : (0 : Int) ≤ 8 * (d : Int) := by omega
        have HYV := Aside0.mk hyv
        clear hy hyv hd hwi h3 hle d3 cx e8 ed0
        have hne : (y != v / 2 ^ (8 * d) % 256) = false := by rw [HYV.out]; simp
        clear a1 v1 v0 a0 k0
        go_wp2
        go_quiet (fail)
        go_wp2
        go_roundg k2
        case measure => omega
        case rel => exact ⟨j + 1, by simp, by omega, ⟨_, rfl⟩⟩
      · have hxy : xs1.getD j 0 = y := by
          rw [hy, HS2.out]
          unfold putI
          split
          · have hok : ok = true := by rw [HOK.out, ← HW7.out.len]; assumption
            obtain ⟨hw, hle⟩ := inM_true (by assumption)
            have hc : ¬ (at_ ≤ j ∧ (j : Int) - at_ < n) := fun h => hin ⟨hok, h⟩
            rw [put_out _ _ _ _ _ (by omega)]
          · rfl
        rw [hxy] at cx
        have HY := Aside0.mk hy
        clear hy hxy
        cases ok with
        | false =>
          clear hin
          go_wp2
          go_quiet (fail)
          go_wp2
          go_roundg k2
          case measure => omega
          case rel => exact ⟨j + 1, by simp, by omega, ⟨_, rfl⟩⟩
        | true =>
          have hwi := (inM_true HOK.out.symm).1
          by_cases h2 : at_ ≤ j
          · have d2 : decide (at_ ≤ (j : Int)) = true := decide_eq_true h2
            have hge : n ≤ (j : Int) - at_ := by
              have h3 : ¬ ((j : Int) - at_ < n) := fun h => hin ⟨rfl, h2, h⟩
              omega
            have ew : IntKind.u64.wrap ((j : Int) - at_) = (j : Int) - at_ := by rw [IntKind.wrap_u64]; omega
            have en : IntKind.u64.wrap n = n := by rw [IntKind.wrap_u64]; omega
            have d4 : decide ((j : Int) - at_ < n) = false := decide_eq_false (by omega)
            clear hin hwi
            go_wp2
            go_quiet (fail)
            go_wp2
            go_roundg k2
            case measure => omega
            case rel => exact ⟨j + 1, by simp, by omega, ⟨_, rfl⟩⟩
          · have d2 : decide (at_ ≤ (j : Int)) = false := decide_eq_false h2
            clear hin hwi
            go_wp2
            go_quiet (fail)
            go_wp2
            go_roundg k2
            case measure => omega
            case rel => exact ⟨j + 1, by simp, by omega, ⟨_, rfl⟩⟩
theorem keeps (w : World) (lo hi : Int) (has : Bool) (at_ n v more : Int) (a0 : 0 ≤ at_) (a1 : at_ < 18446744073709551616) (n01 : -9223372036854775808 ≤ n ∧ n < 9223372036854775808) (v0 : 0 ≤ v) (v1 : v < 18446744073709551616) (k0 : 0 ≤ more) :
    Calls Try.prog 5 #[.agg #[.int .i64 lo, .int .i64 hi, .bool has], .int .u64 at_, .int .i64 n, .int .u64 v, .int .u64 more] w fun e w' => e = .returned (.bool true) ∧ Below w.heap.size w w' := by
  by_cases h : may lo hi has
  · exact keeps_yes w lo hi has at_ n v more a0 a1 n01.1 n01.2 v0 v1 k0 h
  · exact keeps_no w lo hi has at_ n v more h
end Go.Proofs.Ytefihkcmlmapoaa.Mem
