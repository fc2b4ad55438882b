import Derived.Test.YtefihkcmlmapoaaMem25
import Derived.Laws.AppendOwnNone
namespace Go.Proofs.Ytefihkcmlmapoaa.Mem
open Go.RowKit Go.Proofs.YtefihkcmlmapoaaW.PrintWords Go.Proofs.YtefihkcmlmapoaaW.PrintLast Go.Proofs.YtefihkcmlmapoaaW.PrintMore Go.Proofs.Ytefihkcmlmapoaa.PMemHalves
set_option linter.unusedVariables false
set_option linter.unusedSimpArgs false
/-- What is read there, as a text. -/
theorem add_blk (ad : Addr) (j : Nat) : (ad.add j).block = ad.block := by unfold Addr.add; split <;> rfl
theorem src_str {w : World} {B : Option Addr} {nb : Nat} (cb : Nat) {zs : List Int} (hz : zs.length = nb) (h : Src w B zs) : (convert 40 9 (.slice B nb cb)).run Try.prog w = .ok (.string (strOfNums zs)) w := by
  rw [run_convert_bytes_string w 40 9 5 B nb cb Try.underlying40 Try.underlying5 Try.underlying9]
  cases B with
  | none =>
    have : zs = [] := by
      rcases Nat.eq_zero_or_pos zs.length with h0 | h0
      · exact List.eq_nil_of_length_eq_zero h0
      · obtain ⟨_, e, _⟩ := h h0
        cases e
    subst this
    simp [Conv.bytesToString]
    rfl
  | some ad =>
    have hl := run_loadCells_list (P := Try.prog) w ad (zs.map (Value.int .u8)) (fun j v hj => by
      have hjl : j < zs.length := by have := (List.getElem?_eq_some_iff.1 hj).1; simpa using this
      obtain ⟨ad', e, hc⟩ := h (by omega)
      injection e with e
      subst e
      exact hc j v hj)
    rw [List.length_map, hz] at hl
    rw [run_bytesToString (P := Try.prog) w ad nb cb zs hl, foldl_push_bytes]
    congr 2
    simp [strOfNums]
theorem Bs.src {w : World} {base : Nat} {A : Option Addr} {n c : Nat} {xs : List Int} (h : Bs w base A n c xs) : Src w A xs := by
  intro hp
  rcases h.cases with ⟨_, _, _, rfl⟩ | ⟨b, rfl, _, _⟩
  · simp at hp
  · exact ⟨_, rfl, h.news⟩
theorem Bs.set {w : World} {base b n c : Nat} {xs : List Int} (h : Bs w base (some ⟨b, 0, none⟩) n c xs) (i : Nat) (x : Int) : Bs (w.setCell ⟨b, i, none⟩ (.int .u8 x)) base (some ⟨b, 0, none⟩) n c (xs.set i x) :=
  ⟨by rw [List.length_set, h.len], by rw [List.map_set]; exact (h.own.stored i (.int .u8 x)).1⟩
/-- append([]byte{}, b...): a slice of the call's own. -/
theorem app_own {W : World} {B : Option Addr} {nb : Nat} (cb : Nat) {zs : List Int} (hz : zs.length = nb) (h : Src W B zs) (hn : nb ≤ 65536) (hv : B = none → nb = 0 ∧ cb = 0) (ty : TypeId) :
    ∃ A' c' w', (Builtin.append_ #[40, 40] ty #[.slice (some ⟨W.heap.size, 0, none⟩) 0 0, .slice B nb cb]).run Try.prog (W.alloc (.cells #[] 5)) = .ok (.slice A' nb c') w' ∧ Bs w' W.heap.size A' nb c' zs ∧ (W.alloc (.cells #[] 5)).grownBy w' (some W.heap.size) := by
  obtain ⟨i0, hi, hz0, hz1, hz2⟩ := info_parts info5
  have hown := World.ownsRow_made (base := W.heap.size) (e := 5) (size := 1) W #[] 0 (Nat.le_refl _) (by decide) rfl
  cases B with
  | none =>
    obtain ⟨rfl, rfl⟩ := hv rfl
    obtain rfl : zs = [] := List.eq_nil_of_length_eq_zero hz
    have hr := run_append_owned_none (P := Try.prog) (W.alloc (.cells #[] 5)) W.heap.size 40 ty 5 i0 1 Try.underlying40 hi _ 0 [] hown
    exact ⟨_, _, _, hr, ⟨rfl, hown⟩, World.grownBy.refl _ _⟩
  | some ad =>
    obtain ⟨v', w', hr, ho, hg, _⟩ := run_append_own (P := Try.prog) (W.alloc (.cells #[] 5)) W.heap.size 40 ty 5 i0 (.int .u8 0) 1 1 Try.underlying40 hi hz0 hz1 hz2 rfl (by decide) _ 0 [] hown ad nb cb (zs.map (Value.int .u8)) (by rw [List.length_map, hz, Nat.mul_one])
      (by
        intro j u hj
        have hjl : j < zs.length := by have := (List.getElem?_eq_some_iff.1 hj).1; simpa using this
        obtain ⟨ad', e, hc⟩ := h (by omega)
        injection e with e
        subst e
        have hcj := hc j u hj
        have hlt := World.block_lt_of_cell? W _ hcj
        rw [World.cell?_alloc_lt W _ _ hlt]; exact hcj)
      (one_bytes zs) (by unfold maxLen; omega) (by omega) (by simp)
    simp only [Nat.zero_add, List.nil_append] at ho
    obtain ⟨A', c', rfl, hB⟩ := Bs.of hz ho
    exact ⟨A', c', w', hr, hB, hg⟩
set_option maxHeartbeats 4000000 in
theorem stays_no (w : World) (lo hi : Int) (has : Bool) (at_ : Int) (B : Option Addr) (nb cb : Nat) (h : ¬ may lo hi has) :
    Calls Try.prog 7 #[.agg #[.int .i64 lo, .int .i64 hi, .bool has], .int .u64 at_, .slice B nb cb] w fun e w' => e = .returned (.bool true) ∧ Below w.heap.size w w' := by
  have hm := may_n h
  go_enter Try.func7, Try.ntmps7
  go_wp2_with (first | (go_at_call 8; (refine (up_lim _ _).mono ?_); rintro e w1 ⟨rfl, hR1, hB1⟩; have q0 := hR1.cell 0; have q1 := hR1.cell 1; have q2 := hR1.cell 2; simp only [List.getElem?_toArray, List.getElem?_cons_zero, List.getElem?_cons_succ] at q0 q1 q2) | (go_at_call 9; (refine (grommetref15_May.calls lo hi has false _ hm).mono ?_); rintro e w3 ⟨rfl, hB3⟩))
  go_ret
  exact ⟨rfl, below_then hB1 hB1.size hB3⟩
set_option maxHeartbeats 4000000 in
theorem stays_long (w : World) (lo hi : Int) (has : Bool) (at_ : Int) (B : Option Addr) (nb cb : Nat) (h : may lo hi has) (hnb : 5000 < nb) :
    Calls Try.prog 7 #[.agg #[.int .i64 lo, .int .i64 hi, .bool has], .int .u64 at_, .slice B nb cb] w fun e w' => e = .returned (.bool true) ∧ Below w.heap.size w w' := by
  have hm := may_t h
  have d1 : decide ((5000 : Int) < (nb : Int)) = true := decide_eq_true (by omega)
  go_enter Try.func7, Try.ntmps7
  go_wp2_with (first | (go_at_call 8; (refine (up_lim _ _).mono ?_); rintro e w1 ⟨rfl, hR1, hB1⟩; have q0 := hR1.cell 0; have q1 := hR1.cell 1; have q2 := hR1.cell 2; simp only [List.getElem?_toArray, List.getElem?_cons_zero, List.getElem?_cons_succ] at q0 q1 q2) | (go_at_call 9; (refine (grommetref15_May.calls lo hi has true _ hm).mono ?_); rintro e w3 ⟨rfl, hB3⟩))
  go_ret
  exact ⟨rfl, below_then hB1 hB1.size hB3⟩
set_option maxRecDepth 100000 in
set_option maxHeartbeats 16000000 in
theorem stays_yes (w : World) (lo hi : Int) (has : Bool) (at_ : Int) (a0 : 0 ≤ at_) (a1 : at_ < 18446744073709551616) (B : Option Addr) (nb cb : Nat) (zs : List Int) (hz : zs.length = nb) (hzr : ∀ x ∈ zs, 0 ≤ x ∧ x < 256) (hsrc : Src w B zs) (hold : ∀ ad, B = some ad → 0 < nb → ad.block < w.heap.size) (hnb : nb ≤ 5000) (hv : B = none → nb = 0 ∧ cb = 0) (h : may lo hi has) :
    Calls Try.prog 7 #[.agg #[.int .i64 lo, .int .i64 hi, .bool has], .int .u64 at_, .slice B nb cb] w fun e w' => e = .returned (.bool true) ∧ Below w.heap.size w w' := by
  have hm := may_t h
  have h0 := h.1
  have h1 := h.2.1
  obtain ⟨most, hmost⟩ : ∃ most, most = (if has = true then hi else 16) := ⟨_, rfl⟩
  obtain ⟨nn, hn⟩ : ∃ nn, nn = (lo * 256).toNat := ⟨_, rfl⟩
  have hn0 : (nn : Int) / 256 = lo := by omega
  have hn1 : (nn : Int) / 256 ≤ most := by
    have := h.2.2
    rw [hmost]
    split
    · have := this (by assumption)
      omega
    · omega
  have hmo2 : most ≤ 16 := by
    have := h.2.2
    rw [hmost]
    split
    · have := this (by assumption)
      omega
    · omega
  have hn2 : nn ≤ 4096 := by omega
  have hn3 : nn % 256 = 0 := by omega
  have nw : ∀ W : World, Calls Try.prog 10 #[.agg #[.int .i64 lo, .int .i64 hi, .bool has]] W (MNew W most nn) := fun W => by rw [hmost, hn]; exact mnew W lo hi has h
  have hsr : ∀ W : World, Below w.heap.size w W → Src W B zs := fun W hB hp => by
    obtain ⟨ad, e, hc⟩ := hsrc hp
    exact ⟨ad, e, fun j v hj => (hB.cell (p := ad.add j) (by rw [add_blk]; exact hold ad e (by omega))).trans (hc j v hj)⟩
  have NW := Aside0.mk nw
  have N0 := Aside0.mk hn0
  have N1 := Aside0.mk hn1
  have N2 := Aside0.mk hn2
  have N3 := Aside0.mk hn3
  have MO := Aside0.mk hmo2
  have SR := Aside0.mk hsr
  have HZ := Aside0.mk hz
  have HV := Aside0.mk hv
  have HZR := Aside0.mk hzr
  have A01 := Aside0.mk (And.intro a0 a1)
  clear hn hmost hn1 hn2 nw h h0 h1 hmo2 hn3 hn0 hsrc hold hz hzr a0 a1 hv
  go_enter Try.func7, Try.ntmps7
  go_wp2_with (first | (go_at_call 8; (refine (up_lim _ _).mono ?_); rintro e w1 ⟨rfl, hR1, hB1⟩; have q0 := hR1.cell 0; have q1 := hR1.cell 1; have q2 := hR1.cell 2; simp only [List.getElem?_toArray, List.getElem?_cons_zero, List.getElem?_cons_succ] at q0 q1 q2) | (go_at_call 9; (refine (grommetref15_May.calls lo hi has true _ hm).mono ?_); rintro e w2 ⟨rfl, hB2⟩; have hR2 := hR1.below hB2 hR1.lt; clear q0 q1 q2; have q0 := hR2.cell 0; have q1 := hR2.cell 1; have q2 := hR2.cell 2; simp only [List.getElem?_toArray, List.getElem?_cons_zero, List.getElem?_cons_succ] at q0 q1 q2) | (go_at_call 10; (refine (NW.out _).mono ?_); rintro e w3 ⟨g, A, c, rfl, hM3, hB3⟩; have hB13 := below_then hB2 hB2.size hB3; have hM3' := hM3.mono (base' := w1.heap.size) hB2.size; clear q0 q1 q2 hR2 hM3 hB3 hB2; obtain ⟨Ao, co, w4, hr4, hO4, hG4⟩ := app_own cb HZ.out (SR.out w3 (below_step hB1 hB13)) (by omega) HV.out 40; have HR4 := Aside0.mk hr4; clear hr4) | (at_builtin; refine Lib.wpList_append_run _ rfl (.tmp 40) (.tmp 41) 40 40 rfl _ _ rfl rfl _ _ HR4.out ?_))
  have hB4 : Below w3.heap.size w3 w4 := ((Below.refl w3.heap.size w3).alloc (Nat.le_refl _) _).grown hG4 (by simp) (by intro k hk; injection hk with hk; omega)
  have hM4 := hM3'.below' hB4
  have hB14 := below_then hB13 hB13.size hB4
  have hB4s := Aside0.mk hB13.size
  have HG3 := Aside0.mk hM3'.row.lt
  have hA3 : ∀ k, blk A = some k → k < w3.heap.size := fun k hk => (hM3'.ge hk).2
  clear hG4 hM3' hB13
  have hS4 : Src w4 B zs := SR.out w4 (below_step hB1 hB14)
  refine (write_all hM4 N2.out at_ A01.out.1 A01.out.2 Ao nb co zs HZ.out (by omega) HZR.out hO4.src).mono ?_
  rintro e w5 ⟨rfl, hM5, hG5⟩
  obtain ⟨xs1, hxs1⟩ : ∃ xs1, xs1 = (if at_ + nb ≤ nn then splice (List.replicate nn 0) at_.toNat zs else List.replicate nn (0 : Int)) := ⟨_, rfl⟩
  rw [← hxs1] at hM5
  have hO5 := hO4.stays hG5 hA3
  have hB15 := hB14.trans (below_of hG5 hB14.size (fun k hk => (hM4.ge hk).1))
  have k5 := hO5.str'
  have j5 := src_str cb HZ.out (SR.out w5 (below_step hB1 hB15))
  clear hM4 hG5 hB14 hO4 hB4 hS4 hxs1
  go_wp2_with fail
  refine (bytes_calls hM5 (by have := N2.out; omega)).mono ?_
  rintro e w6 ⟨A6, c6, rfl, hX6, hB6⟩
  have k6 := hX6.str'
  have hM6 := hM5.below' hB6
  have hO6 := hO5.below' hB6
  have hB16 := below_then hB15 hB15.size hB6
  have hAO : ∀ k, blk Ao = some k → w3.heap.size ≤ k := fun k hk => (hO6.ge hk).1
  have hz3 := hB4s.out
  clear hM5 hO5 hB15 k5 j5 hX6 hB6
  have HM6 := Aside0.mk hM6
  have HO6 := Aside0.mk hO6
  have HB16 := Aside0.mk hB16
  have HA3 := Aside0.mk hA3
  have HAO := Aside0.mk hAO
  clear hM6 hO6 hB16 hA3 hAO
  go_wp2_with fail
  clear k6
  go_loopg [14] nb (fun kq v14 w' => ∃ (j : Nat) (ys : List Int), v14 = .int .i64 j ∧ j + kq = nb ∧ Bs w' w3.heap.size Ao nb co ys ∧ w6.grownBy w' (blk Ao))
  case atStart => exact ⟨0, zs, rfl, by omega, HO6.out, World.grownBy.refl _ _⟩
  case round =>
    obtain ⟨j, ys, rfl, hj, hO, hG⟩ := hrel
    cases gk with
    | succ k2 =>
      have hjn : j < nb := by omega
      obtain ⟨bo, hAo⟩ : ∃ b, Ao = some ⟨b, 0, none⟩ := by
        rcases hO.cases with ⟨_, h0, _⟩ | ⟨b, hb, _⟩
        · omega
        · exact ⟨b, hb⟩
      subst hAo
      have hlt : ((j : Int) < (nb : Int)) = True := eq_true (by omega)
      have hc := hO.cell j hjn
      have hf := hO.own.frozenAt j
      obtain ⟨y, hy⟩ : ∃ y, y = ys.getD j 0 := ⟨_, rfl⟩
      rw [← hy] at hc
      have HO := Aside0.mk hO
      have HG := Aside0.mk hG
      clear hO hG hy
      go_wp2
      go_roundg k2
      case measure => omega
      case rel => exact ⟨j + 1, _, by simp, by omega, HO.out.set j _, grown_set HG.out _ _⟩
    | zero =>
      obtain rfl : j = nb := by omega
      have hge : ¬ ((j : Int) < (j : Int)) := by omega
      have hM7 := HM6.out.kept hG (fun e => by have := HAO.out g e; have := HG3.out; omega) (by
        cases hA : blk A with
        | none => exact .inl rfl
        | some i => exact .inr (fun e => by have := HA3.out i hA; have := HAO.out i e.symm; omega))
      have hB17 := HB16.out.trans (below_of hG HB16.out.size (fun k hk => by have := HAO.out k hk; have := hz3; omega))
      clear hO hG
      have HM7 := Aside0.mk hM7
      have HB17 := Aside0.mk hB17
      clear hM7 hB17
      go_wp2_with fail
      refine (bytes_calls HM7.out (by have := N2.out; omega)).mono ?_
      rintro e w8 ⟨A8, c8, rfl, hX8, hB8⟩
      have hM8 := HM7.out.below' hB8
      have hB18 := below_then HB17.out HB17.out.size hB8
      have hA8 : ∀ k, blk A8 = some k → wr.heap.size ≤ k := fun k hk => (hX8.ge hk).1
      have HX8 := Aside0.mk hX8
      have HM8 := Aside0.mk hM8
      have HB18 := Aside0.mk hB18
      have HA8 := Aside0.mk hA8
      clear hX8 hM8 hB18 hA8 hB8
      go_wp2_with fail
      obtain ⟨wp, hwp⟩ : ∃ wp, wp = wr := ⟨_, rfl⟩
      rw [← hwp] at HX8 HA8 HM7 HB17
      have HWP := Aside0.mk hwp
      clear hwp
      go_loopg [16] nn (fun kq v16 w' => ∃ (i : Nat) (ys : List Int), v16 = .int .i64 i ∧ i + kq = nn ∧ Bs w' wp.heap.size A8 nn c8 ys ∧ w8.grownBy w' (blk A8))
      case atStart => exact ⟨0, xs1, rfl, by omega, HX8.out, World.grownBy.refl _ _⟩
      case round =>
        obtain ⟨i, ys2, rfl, hi2, hX, hG2⟩ := hrel
        cases gk with
        | succ k2 =>
          have hin : i < nn := by omega
          obtain ⟨b8, hA8'⟩ : ∃ b, A8 = some ⟨b, 0, none⟩ := by
            rcases hX.cases with ⟨_, h0, _⟩ | ⟨b, hb, _⟩
            · omega
            · exact ⟨b, hb⟩
          subst hA8'
          have hlt : ((i : Int) < (nn : Int)) = True := eq_true (by omega)
          have hc := hX.cell i hin
          have hf := hX.own.frozenAt i
          have hnb := N2.out
          obtain ⟨y, hy⟩ : ∃ y, y = ys2.getD i 0 := ⟨_, rfl⟩
          rw [← hy] at hc
          have HX := Aside0.mk hX
          have HG := Aside0.mk hG2
          clear hX hG2 hy
          go_wp2
          go_roundg k2
          case measure => omega
          case rel => exact ⟨i + 1, _, by simp, by omega, HX.out.set i _, grown_set HG.out _ _⟩
        | zero =>
          obtain rfl : i = nn := by omega
          have hge2 : ¬ ((i : Int) < (i : Int)) := by omega
          have hM9 := HM8.out.kept hG2 (fun e => by have h1 := HA8.out g e; have := HM7.out.row.lt; omega) (by
            cases hA : blk A with
            | none => exact .inl rfl
            | some q => exact .inr (fun e => by have h1 := HA8.out q e.symm; have := (HM7.out.ge hA).2; omega))
          have hB19 := HB18.out.trans (below_of hG2 HB18.out.size (fun k hk => by have := HA8.out k hk; have := HB17.out.size; omega))
          clear hX hG2
          have HM9 := Aside0.mk hM9
          have HB19 := Aside0.mk hB19
          clear hM9 hB19
          have hlen := N2.out
          go_wp2_with fail
          refine (mclone_calls HM9.out (by omega)).mono ?_
          rintro e w10 ⟨g2, A2, c2, rfl, hC10, hB10⟩
          have hM10 := HM9.out.below' hB10
          have hB110 := below_then HB19.out HB19.out.size hB10
          have hgg : wr.heap.size ≤ g2 := hC10.lo
          have hga : ∀ k, blk A2 = some k → wr.heap.size ≤ k := fun k hk => (hC10.ge hk).1
          have hg1 := HM9.out.row.lt
          have hA1 : ∀ k, blk A = some k → k < wr.heap.size := fun k hk => (HM9.out.ge hk).2
          have HC10 := Aside0.mk hC10
          have HM10 := Aside0.mk hM10
          have HB110 := Aside0.mk hB110
          have HGG := Aside0.mk hgg
          have HGA := Aside0.mk hga
          have HG1 := Aside0.mk hg1
          have HA1 := Aside0.mk hA1
          clear hC10 hM10 hB110 hB10 hgg hga hg1 hA1
          go_wp2_with (first | (go_at_call 16; (refine (bytes_calls HC10.out (by omega)).mono ?_); rintro e w11 ⟨A11, c11, rfl, hX11, hB11⟩; have k11 := hX11.str'; have hC11 := HC10.out.below' hB11; have hM11 := HM10.out.below' hB11; have hB111 := below_then HB110.out HB110.out.size hB11))
          refine (most_calls (by exact hC11.row)).mono ?_
          rintro e w' ⟨rfl, ⟨nda, rfl⟩⟩
          have HC11 := Aside0.mk hC11
          have HM11 := Aside0.mk hM11
          have HB111 := Aside0.mk hB111
          clear hC11 hM11 hB111 hX11 hB11 k11
          go_wp2_with fail
          refine (most_calls (by exact HM11.out.row)).mono ?_
          rintro e w' ⟨rfl, ⟨ndb, rfl⟩⟩
          go_wp2_with fail
          refine (store_all (HC11.out.drewN _) N2.out 0 1 99 (by decide) (by decide)).mono ?_
          rintro e w12 ⟨rfl, hC12, hG12⟩
          have hM12 := (HM11.out.drewN _).kept hG12 (fun e => by have h1 := HGA.out g e; have := HG1.out; omega) (by
            cases hA : blk A with
            | none => exact .inl rfl
            | some q => exact .inr (fun e => by have h1 := HGA.out q e.symm; have := HA1.out q hA; omega))
          have hB112 := (pw_below_drewN HB111.out _).trans (below_of hG12 HB111.out.size (fun k hk => by have h1 := HGA.out k hk; have := HB19.out.size; omega))
          have hz12 : wr.heap.size ≤ w12.heap.size := Nat.le_of_lt (Nat.lt_of_le_of_lt HGG.out hC12.row.lt)
          obtain ⟨xs2, hxs2⟩ : ∃ xs2, xs2 = putI xs1 0 1 99 := ⟨_, rfl⟩
          rw [← hxs2] at hC12
          clear hG12 hxs2
          have HC12 := Aside0.mk hC12
          have HM12 := Aside0.mk hM12
          have HB112 := Aside0.mk hB112
          have HZ12 := Aside0.mk hz12
          clear hC12 hM12 hB112 hz12
          go_wp2_with fail
          refine (grow_any HC12.out HZ12.out N2.out N3.out 1 (by decide) N1.out MO.out).mono ?_
          rintro e w13 ⟨A13, n13, c13, zs13, z13, rfl, hC13, _, hG13⟩
          have hM13 := HM12.out.kept hG13 (fun e => by injection e with e; have := HGG.out; have := HG1.out; omega) (by
            cases hA : blk A with
            | none => exact .inl rfl
            | some q => exact .inr (fun e => by injection e with e; have := HGG.out; have := HA1.out q hA; omega))
          have hB113 := HB112.out.trans (below_of hG13 HB112.out.size (fun k hk => by injection hk with hk; have := HGG.out; have := HB19.out.size; omega))
          have hR13 := hR1.below hB113 hR1.lt
          clear hC13 hG13
          have HM13 := Aside0.mk hM13
          have HB113 := Aside0.mk hB113
          have HR1 := Aside0.mk hR1
          have HB1 := Aside0.mk hB1
          have q0 := hR13.cell 0
          have q00 := hR13.lt
          simp only [List.getElem?_toArray, List.getElem?_cons_zero] at q0
          have hcmp : ((i : Int) / 256 == lo) = true := by rw [N0.out]; simp
          clear hM13 hB113 hR13 hR1 hB1
          go_wp2_with fail
          go_outline
          go_region_with (first | (go_at_call 16; (refine (bytes_calls (by first | exact HM13.out.drewN _ | exact HM13.out.drewN 1) (by omega)).mono ?_); rintro e w14 ⟨A14, c14, rfl, hX14, hB14⟩; have k14 := hX14.str'; have k15 := fun k => (hX14.drewN k).str'; have r14 := (hB14.cell (p := ⟨w.heap.size, 0, none⟩) q00).trans q0; have HM14 : Mm w14 _ 55 g A _ c _ _ := (by first | exact (HM13.out.drewN _).below' hB14 | exact (HM13.out.drewN 1).below' hB14); have HB114 := Aside0.mk (by first | exact below_step (pw_below_drewN HB113.out _) hB14 | exact below_step (pw_below_drewN HB113.out 1) hB14 : Below w1.heap.size w1 w14); have HH14 := Aside0.mk HM14; clear HM14 hX14 hB14) | (go_at_call 14; (refine (pages_calls (by exact HH14.out.row) (by omega)).mono ?_); rintro e w15 ⟨rfl, ⟨nd15, rfl⟩⟩))
          all_goals (go_wp2; go_ret)
          all_goals (refine ⟨?_, ?_⟩)
          all_goals first | exact below_step HB1.out (pw_below_drewN HB114.out _) | (simp [Act.put]; done) | rfl
end Go.Proofs.Ytefihkcmlmapoaa.Mem
