/- The law NameBack, walked: what was put is read as it was; what was read, and put one behind the other, is those bytes. -/
import Derived.Test.YtagaihiemomelaaDoorNm6
namespace Go.Proofs.YtagaihiemomelaaDoor.Nm
open Go.RowKit Go.Proofs.YtagaihiemomelaaDoorW.PrintWords Go.Proofs.YtagaihiemomelaaDoorW.PrintLast Go.Proofs.YtagaihiemomelaaDoorW.PrintMore Go.Proofs.YtagaihiemomelaaDoor.RNameReads Go.Proofs.YtagaihiemomelaaDoor.Man
set_option linter.unusedVariables false
set_option linter.unusedSimpArgs false
theorem str_at {w : World} {A : Option Addr} {c : Nat} {l : List Int} (h : U8.C w A l.length l) : (convert 22 9 (.slice A l.length c)).run Tryd.prog w = .ok (.string (strOfNums l)) w :=
  Kd.C_string (P := Tryd.prog) (A := A) (c := c) Tryd.underlying22 Tryd.underlying5 Tryd.underlying9 h
theorem flat_len : ∀ (cs : List Int), cs.length ≤ (cs.flatMap enc).length
  | [] => Nat.le_refl _
  | x :: r => by
    have := flat_len r
    have hx := enc_length x
    have hw := width_of (c := x)
    rw [List.flatMap_cons, List.length_append, List.length_cons]
    omega
theorem flat_len2 : ∀ (cs : List Int), (cs.flatMap enc).length ≤ 4 * cs.length
  | [] => Nat.le_refl _
  | x :: r => by
    have := flat_len2 r
    have hx := enc_length x
    have hw := width_of (c := x)
    rw [List.flatMap_cons, List.length_append, List.length_cons]
    omega
theorem rd_at (l : List Int) (j : Nat) (h : j < l.length) : l[j]? = some (rdOf (0 : Int) l (j : Int)) := by
  simp [rdOf, List.getD, h]
theorem put_yes (W : World) (c : Int) (h : isChar c = true) : Calls Tryd.prog 14 #[.int .i64 c] W fun e w' => ∃ A c', e = .returned (.tuple #[.slice A (enc c).length c', .nilIface]) ∧ U8.R 5 w' W.heap.size (fun _ => True) (.slice A (enc c).length c') (enc c) ∧ Below W.heap.size W w' := by
  refine (RNamePuts.name_Put.calls 4 c (enc c) none W (put_f c h)).mono ?_
  rintro e w' ⟨v, he, hR, hB⟩
  obtain ⟨A, c', rfl⟩ := Kd.R_slice hR
  exact ⟨A, c', he, hR, hB⟩
theorem put_not (W : World) (c : Int) (h : isChar c = false) : Calls Tryd.prog 14 #[.int .i64 c] W fun e w' => ∃ u, e = .returned (.tuple #[u, .iface 33 (.int .i64 1)]) ∧ Below W.heap.size W w' := by
  refine (RNamePuts.name_Put.calls 4 c [] (some 1) W (put_no 4 c h)).mono ?_
  rintro e w' ⟨v, he, hR, hB⟩
  exact ⟨v, he, hB⟩
set_option maxHeartbeats 8000000 in
theorem back_in (W : World) (hG : GL W) (x0 : Int) (A : Option Addr) (d : Nat) (b : List Int) (hA : U8.C W A b.length b) (hc : b.length ≤ d) (bb : Bytes b) (lb : b.length ≤ 1000) :
    Calls Tryd.prog 7 #[.int .i64 x0, .slice A b.length d] W fun e w' => e = .returned (.bool true) ∧ Below W.heap.size W w' := by
  have HG := Aside0.mk hG
  have HL := Aside0.mk lb
  have HA := Aside0.mk hA
  have HBY := Aside0.mk bb
  have CB := Aside0.mk (show ∀ W5 : World, Below W.heap.size W W5 → Calls Tryd.prog 9 #[.slice A b.length d] W5 fun e w' => ∃ u v, e = .returned (.tuple #[u, v]) ∧ Below W5.heap.size W5 w' ∧ Tells W5 (dec b) u v w' from
    fun W5 h5 => chars_v W5 A d b (Kd.C_below hA h5) hc bb (by omega))
  have g1 : decide ((1000 : Int) < (b.length : Int)) = false := decide_eq_false (by omega)
  clear hG hA bb lb
  cases hch : isChar x0 with
  | true =>
    have PX := Aside0.mk (fun W5 => put_yes W5 x0 hch)
    have CE := Aside0.mk (show ∀ (W5 : World) (A5 : Option Addr) (c5 : Nat), U8.C W5 A5 (enc x0).length (enc x0) → (enc x0).length ≤ c5 → Calls Tryd.prog 9 #[.slice A5 (enc x0).length c5] W5 fun e w' => ∃ u v, e = .returned (.tuple #[u, v]) ∧ Below W5.heap.size W5 w' ∧ Tells W5 (dec (enc x0)) u v w' from
      fun W5 A5 c5 h5 hc5 => chars_v W5 A5 c5 (enc x0) h5 hc5 (enc_bytes x0 hch) (by have := enc_length x0; have := width_of (c := x0); omega))
    rw [dec_one x0 hch] at CE
    clear hch
    go_enter Tryd.func7, Tryd.ntmps7
    go_upto_region 6 with (first
      | (go_at_call 8; (refine (grommetlaw02_up.calls true _ HG.out rfl).mono ?_); rintro e w1 ⟨rfl, hB1⟩; have HB1 := Aside0.mk hB1; clear hB1)
      | (go_at_call 14; (refine (PX.out _).mono ?_); rintro e w2 ⟨A2, c2, rfl, hR2, hB2⟩; have HR2 := Aside0.mk hR2; have HB2 := Aside0.mk (HB1.out.trans (hB2.mono HB1.out.size)); clear hR2 hB2))
    go_upto_region 7 with (go_at_call 9; (with_reducible refine (CE.out _ A2 c2 (Kd.R_reads' HR2.out).2.2 (Kd.R_reads' HR2.out).2.1).mono ?_); rintro e w3 ⟨ul, ve, rfl, hB3, hT3⟩; have HW9 := Aside0.mk (HB2.out.trans (hB3.mono HB2.out.size)); have HT3 := Aside0.mk hT3; clear hB3 hT3)
    obtain ⟨rfl, hR3⟩ := HT3.out
    obtain ⟨A3, c3, rfl⟩ := Kd.R_slice hR3
    obtain ⟨g3, rfl⟩ : ∃ g, A3 = some ⟨g, 0, none⟩ := by
      obtain ⟨g, cap, he, _⟩ := Kd.R_form hR3 (by simp)
      simp only [Value.slice.injEq] at he
      exact ⟨g, he.1⟩
    obtain ⟨c30, _⟩ := Kd.R_celln (d := (0 : Int)) hR3 0 (by decide) (by simp)
    have e30 : rdOf (0 : Int) ([x0] : List Int) 0 = x0 := by simp [rdOf]
    rw [e30] at c30
    simp only [Int.toNat_zero] at c30
    clear hR3 HT3 HR2 CE PX
    go_upto_region 9 with fail
    go_upto_region 10 with (go_at_call 9; (with_reducible refine (CB.out _ HW9.out).mono ?_); rintro e w10 ⟨ul, vf, rfl, hB10, hT10⟩; have HB10 := Aside0.mk (HW9.out.trans (hB10.mono HW9.out.size)); have HT10 := Aside0.mk hT10; clear hB10 hT10)
    cases hd : dec b with
    | error i =>
      have h6 := HT10.out
      rw [hd] at h6
      obtain ⟨rfl, p, rfl⟩ := h6
      go_wp2_with fail
      go_ret
      exact ⟨rfl, HB10.out⟩
    | ok ls =>
      have h6 := HT10.out
      rw [hd] at h6
      obtain ⟨rfl, hR⟩ := h6
      obtain ⟨A6, c6, rfl⟩ := Kd.R_slice hR
      obtain ⟨hch, hfl⟩ := dec_enc b.length b ls (Nat.le_refl _) HBY.out hd
      have hll : ls.length ≤ 1000 := by have := flat_len ls; rw [hfl] at this; have := HL.out; omega
      have HR := Aside0.mk hR
      have HCH := Aside0.mk (And.intro hch (And.intro hfl hll))
      clear hR hch hfl hll hd HT10 CB
      go_wp2_with fail
      go_loopg [12, 13] ls.length (fun kq v12 v13 w' => ∃ (j : Nat) (A7 : Option Addr) (c7 : Nat), v13 = .int .i64 (j : Int) ∧ v12 = .slice A7 ((ls.take j).flatMap enc).length c7 ∧ j + kq = ls.length ∧ Aside0 (U8.R 5 w' w10.heap.size (fun _ => True) (.slice A7 ((ls.take j).flatMap enc).length c7) ((ls.take j).flatMap enc)) ∧ Aside0 (Below w10.heap.size w10 w'))
      case atStart => exact ⟨0, none, 0, rfl, rfl, by omega, ⟨Kd.R_nil _ _ _ _ _⟩, ⟨Below.refl _ _⟩⟩
      case round =>
        obtain ⟨j, A7, c7, rfl, rfl, hj, HO, HB⟩ := hrel
        cases gk with
        | zero =>
          have l1 : ((j : Int) < (ls.length : Int)) = False := eq_false (by omega)
          have hall : (ls.take j).flatMap enc = b := by rw [show j = ls.length by omega, List.take_length]; exact HCH.out.2.1
          rw [hall] at HO ⊢
          have BW := HB10.out.trans (HB.out.mono HB10.out.size)
          have j1 := str_at (c := c7) (Kd.R_reads' HO.out).2.2
          have j2 := str_at (c := d) (Kd.C_below HA.out BW)
          have HW := Aside0.mk BW
          clear BW hall hj
          go_wp2_with fail
          go_ret
          exact ⟨rfl, by repeat (first | exact HW.out | apply pw_below_drewN | apply below_drew)⟩
        | succ k2 =>
          have l1 : ((j : Int) < (ls.length : Int)) = True := eq_true (by omega)
          have hRr := Kd.R_below HR.out HB.out
          obtain ⟨g, rfl⟩ : ∃ g, A6 = some ⟨g, 0, none⟩ := by
            obtain ⟨g, cap, he, _⟩ := Kd.R_form hRr (by omega)
            simp only [Value.slice.injEq] at he
            exact ⟨g, he.1⟩
          obtain ⟨c6c, _⟩ := Kd.R_celln (d := (0 : Int)) hRr j (by omega) (by omega)
          simp only [Int.toNat_natCast] at c6c
          obtain ⟨x, hx⟩ : ∃ x, x = rdOf (0 : Int) ls (j : Int) := ⟨_, rfl⟩
          rw [← hx] at c6c
          have hxl : ls[j]? = some x := by rw [hx]; exact rd_at ls j (by omega)
          have hxc : isChar x = true := HCH.out.1 x (List.mem_of_getElem? hxl)
          have htk : (ls.take (j + 1)).flatMap enc = (ls.take j).flatMap enc ++ enc x := by rw [List.take_add_one, hxl]; simp
          have hfl2 : ((ls.take j).flatMap enc).length ≤ 10000 := by
            have := flat_len2 (ls.take j)
            have := HCH.out.2.2
            simp only [List.length_take] at *
            omega
          have PX := Aside0.mk (fun W5 => put_yes W5 x hxc)
          have HTK := Aside0.mk htk
          have HFL := Aside0.mk hfl2
          have i0 : (0 : Int) ≤ (j : Int) := by omega
          have e8 : wrap64 ((j : Int) + 1) = (j : Int) + 1 := by have := HCH.out.2.2; unfold wrap64; omega
          obtain ⟨all, hall⟩ : ∃ l, l = (ls.take j).flatMap enc := ⟨_, rfl⟩
          rw [← hall] at HO HFL HTK ⊢
          obtain ⟨nxt, hnx⟩ : ∃ l, l = all ++ enc x := ⟨_, rfl⟩
          rw [← hnx] at HTK
          have HNX := Aside0.mk hnx
          clear hRr hx hxl hxc htk hfl2 hall hnx
          go_wp2_with (first
            | (go_at_call 14; (refine (PX.out _).mono ?_); rintro e w11 ⟨A11, c11, rfl, hR11, hB11⟩; have HR11 := Aside0.mk hR11; have HB11 := Aside0.mk (HB.out.trans (hB11.mono HB.out.size)); have HO11 := Aside0.mk (Kd.R_below HO.out hB11); clear hR11 hB11)
            | ((with_reducible refine gate_builtin (b := .append) (xs := #[.tmp 71, .tmp 72]) rfl ?_); at_builtin; refine Kd.R_append_rows (Kd.int .u8) (w0 := w10) w10.heap.size rfl (.tmp 71) (.tmp 72) 22 5 (.int .u8 0) 1 rfl Tryd.underlying22 info5 rfl (by decide) (by omega) (.slice A7 all.length c7) all (enc x) _ _ _ (fun _ => True) (fun _ => False) rfl rfl ?aO ?aR (fun _ _ h => h) (fun _ h => h.elim) ?aF ?aB ?aS ?aL ?_; (case aR => exact (Kd.R_reads' HR11.out).2.2); (case aB => exact (by repeat (first | exact HB11.out | apply below_alloc | apply pw_below_drewN | apply below_drew))); (case aF => exact (fun _ _ => trivial)); (case aO => exact (by (with_reducible repeat (first | apply Kd.R_alloc | apply Kd.R_drewN | apply Kd.R_drew)); exact HO11.out)); (case aS => exact (below_size (by repeat (first | exact HB11.out | apply below_alloc | apply pw_below_drewN | apply below_drew)))); (case aL => have := HFL.out; have := enc_length x; have := width_of (c := x); omega); intro v73 w12 ho hb hg hat; have ho2 := ho; rw [← HNX.out] at ho2; obtain ⟨A12, c12, e12⟩ := Kd.R_slice ho2; subst e12; have HO12 := Aside0.mk ho2; have HB12 := Aside0.mk hb; clear ho ho2 hb hg hat))
          go_roundg k2
          case measure => omega
          case rel => exact ⟨j + 1, A12, c12, by first | rfl | (rw [e8]; rfl), by rw [HTK.out], by omega, by rw [HTK.out]; exact HO12, HB12⟩
  | false =>
    have PX := Aside0.mk (fun W5 => put_not W5 x0 hch)
    clear hch
    go_enter Tryd.func7, Tryd.ntmps7
    go_upto_region 9 with (first
      | (go_at_call 8; (refine (grommetlaw02_up.calls true _ HG.out rfl).mono ?_); rintro e w1 ⟨rfl, hB1⟩; have HB1 := Aside0.mk hB1; clear hB1)
      | (go_at_call 14; (refine (PX.out _).mono ?_); rintro e w2 ⟨u2, rfl, hB2⟩; have HW9 := Aside0.mk (HB1.out.trans (hB2.mono HB1.out.size)); clear hB2))
    go_upto_region 10 with (go_at_call 9; (with_reducible refine (CB.out _ HW9.out).mono ?_); rintro e w10 ⟨ul, vf, rfl, hB10, hT10⟩; have HB10 := Aside0.mk (HW9.out.trans (hB10.mono HW9.out.size)); have HT10 := Aside0.mk hT10; clear hB10 hT10)
    cases hd : dec b with
    | error i =>
      have h6 := HT10.out
      rw [hd] at h6
      obtain ⟨rfl, p, rfl⟩ := h6
      go_wp2_with fail
      go_ret
      exact ⟨rfl, HB10.out⟩
    | ok ls =>
      have h6 := HT10.out
      rw [hd] at h6
      obtain ⟨rfl, hR⟩ := h6
      obtain ⟨A6, c6, rfl⟩ := Kd.R_slice hR
      obtain ⟨hch, hfl⟩ := dec_enc b.length b ls (Nat.le_refl _) HBY.out hd
      have hll : ls.length ≤ 1000 := by have := flat_len ls; rw [hfl] at this; have := HL.out; omega
      have HR := Aside0.mk hR
      have HCH := Aside0.mk (And.intro hch (And.intro hfl hll))
      clear hR hch hfl hll hd HT10 CB
      go_wp2_with fail
      go_loopg [12, 13] ls.length (fun kq v12 v13 w' => ∃ (j : Nat) (A7 : Option Addr) (c7 : Nat), v13 = .int .i64 (j : Int) ∧ v12 = .slice A7 ((ls.take j).flatMap enc).length c7 ∧ j + kq = ls.length ∧ Aside0 (U8.R 5 w' w10.heap.size (fun _ => True) (.slice A7 ((ls.take j).flatMap enc).length c7) ((ls.take j).flatMap enc)) ∧ Aside0 (Below w10.heap.size w10 w'))
      case atStart => exact ⟨0, none, 0, rfl, rfl, by omega, ⟨Kd.R_nil _ _ _ _ _⟩, ⟨Below.refl _ _⟩⟩
      case round =>
        obtain ⟨j, A7, c7, rfl, rfl, hj, HO, HB⟩ := hrel
        cases gk with
        | zero =>
          have l1 : ((j : Int) < (ls.length : Int)) = False := eq_false (by omega)
          have hall : (ls.take j).flatMap enc = b := by rw [show j = ls.length by omega, List.take_length]; exact HCH.out.2.1
          rw [hall] at HO ⊢
          have BW := HB10.out.trans (HB.out.mono HB10.out.size)
          have j1 := str_at (c := c7) (Kd.R_reads' HO.out).2.2
          have j2 := str_at (c := d) (Kd.C_below HA.out BW)
          have HW := Aside0.mk BW
          clear BW hall hj
          go_wp2_with fail
          go_ret
          exact ⟨rfl, by repeat (first | exact HW.out | apply pw_below_drewN | apply below_drew)⟩
        | succ k2 =>
          have l1 : ((j : Int) < (ls.length : Int)) = True := eq_true (by omega)
          have hRr := Kd.R_below HR.out HB.out
          obtain ⟨g, rfl⟩ : ∃ g, A6 = some ⟨g, 0, none⟩ := by
            obtain ⟨g, cap, he, _⟩ := Kd.R_form hRr (by omega)
            simp only [Value.slice.injEq] at he
            exact ⟨g, he.1⟩
          obtain ⟨c6c, _⟩ := Kd.R_celln (d := (0 : Int)) hRr j (by omega) (by omega)
          simp only [Int.toNat_natCast] at c6c
          obtain ⟨x, hx⟩ : ∃ x, x = rdOf (0 : Int) ls (j : Int) := ⟨_, rfl⟩
          rw [← hx] at c6c
          have hxl : ls[j]? = some x := by rw [hx]; exact rd_at ls j (by omega)
          have hxc : isChar x = true := HCH.out.1 x (List.mem_of_getElem? hxl)
          have htk : (ls.take (j + 1)).flatMap enc = (ls.take j).flatMap enc ++ enc x := by rw [List.take_add_one, hxl]; simp
          have hfl2 : ((ls.take j).flatMap enc).length ≤ 10000 := by
            have := flat_len2 (ls.take j)
            have := HCH.out.2.2
            simp only [List.length_take] at *
            omega
          have PX := Aside0.mk (fun W5 => put_yes W5 x hxc)
          have HTK := Aside0.mk htk
          have HFL := Aside0.mk hfl2
          have i0 : (0 : Int) ≤ (j : Int) := by omega
          have e8 : wrap64 ((j : Int) + 1) = (j : Int) + 1 := by have := HCH.out.2.2; unfold wrap64; omega
          obtain ⟨all, hall⟩ : ∃ l, l = (ls.take j).flatMap enc := ⟨_, rfl⟩
          rw [← hall] at HO HFL HTK ⊢
          obtain ⟨nxt, hnx⟩ : ∃ l, l = all ++ enc x := ⟨_, rfl⟩
          rw [← hnx] at HTK
          have HNX := Aside0.mk hnx
          clear hRr hx hxl hxc htk hfl2 hall hnx
          go_wp2_with (first
            | (go_at_call 14; (refine (PX.out _).mono ?_); rintro e w11 ⟨A11, c11, rfl, hR11, hB11⟩; have HR11 := Aside0.mk hR11; have HB11 := Aside0.mk (HB.out.trans (hB11.mono HB.out.size)); have HO11 := Aside0.mk (Kd.R_below HO.out hB11); clear hR11 hB11)
            | ((with_reducible refine gate_builtin (b := .append) (xs := #[.tmp 71, .tmp 72]) rfl ?_); at_builtin; refine Kd.R_append_rows (Kd.int .u8) (w0 := w10) w10.heap.size rfl (.tmp 71) (.tmp 72) 22 5 (.int .u8 0) 1 rfl Tryd.underlying22 info5 rfl (by decide) (by omega) (.slice A7 all.length c7) all (enc x) _ _ _ (fun _ => True) (fun _ => False) rfl rfl ?aO ?aR (fun _ _ h => h) (fun _ h => h.elim) ?aF ?aB ?aS ?aL ?_; (case aR => exact (Kd.R_reads' HR11.out).2.2); (case aB => exact (by repeat (first | exact HB11.out | apply below_alloc | apply pw_below_drewN | apply below_drew))); (case aF => exact (fun _ _ => trivial)); (case aO => exact (by (with_reducible repeat (first | apply Kd.R_alloc | apply Kd.R_drewN | apply Kd.R_drew)); exact HO11.out)); (case aS => exact (below_size (by repeat (first | exact HB11.out | apply below_alloc | apply pw_below_drewN | apply below_drew)))); (case aL => have := HFL.out; have := enc_length x; have := width_of (c := x); omega); intro v73 w12 ho hb hg hat; have ho2 := ho; rw [← HNX.out] at ho2; obtain ⟨A12, c12, e12⟩ := Kd.R_slice ho2; subst e12; have HO12 := Aside0.mk ho2; have HB12 := Aside0.mk hb; clear ho ho2 hb hg hat))
          go_roundg k2
          case measure => omega
          case rel => exact ⟨j + 1, A12, c12, by first | rfl | (rw [e8]; rfl), by rw [HTK.out], by omega, by rw [HTK.out]; exact HO12, HB12⟩
theorem back (W : World) (hG : GL W) (x0 : Int) (A : Option Addr) (d : Nat) (b : List Int) (hA : U8.C W A b.length b) (hc : b.length ≤ d) (bb : Bytes b) :
    Calls Tryd.prog 7 #[.int .i64 x0, .slice A b.length d] W fun e w' => e = .returned (.bool true) ∧ Below W.heap.size W w' := by
  by_cases lb : b.length ≤ 1000
  · exact back_in W hG x0 A d b hA hc bb lb
  · have HG := Aside0.mk hG
    have g1 : decide ((1000 : Int) < (b.length : Int)) = true := decide_eq_true (by omega)
    clear hG hA bb lb
    go_enter Tryd.func7, Tryd.ntmps7
    go_wp2_with (go_at_call 8; (refine (grommetlaw02_up.calls true _ HG.out rfl).mono ?_); rintro e w1 ⟨rfl, hB1⟩; have HB1 := Aside0.mk hB1; clear hB1)
    go_ret
    exact ⟨rfl, HB1.out⟩
end Go.Proofs.YtagaihiemomelaaDoor.Nm
