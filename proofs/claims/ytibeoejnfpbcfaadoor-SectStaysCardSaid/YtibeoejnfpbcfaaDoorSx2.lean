/- sect.Split over any bytes, by its contract. -/
import Derived.Test.YtibeoejnfpbcfaaDoorSx3
namespace Go.Proofs.YtibeoejnfpbcfaaDoor.Sx
open Go.RowKit Go.Proofs.YtibeoejnfpbcfaaDoorW.PrintWords Go.Proofs.YtibeoejnfpbcfaaDoorW.PrintLast Go.Proofs.YtibeoejnfpbcfaaDoorW.PrintMore Go.Proofs.YtibeoejnfpbcfaaDoor.RSectSplits Go.Proofs.YtibeoejnfpbcfaaDoor.Leb
set_option linter.unusedVariables false
set_option linter.unusedSimpArgs false
def magicS : ByteArray := ⟨#[0, 97, 115, 109, 1, 0, 0, 0]⟩
def isMod (l : List Int) : Bool := (strings_HasPrefix.f (strOfNums l) ⟨#[0, 97, 115, 109, 1, 0, 0, 0]⟩).getD false
theorem hp_some (a b : ByteArray) : ∃ r, strings_HasPrefix.f a b = some r := by
  unfold strings_HasPrefix.f stringslite_HasPrefix.f
  by_cases h : (a.size : Int) ≥ (b.size : Int)
  · rw [if_pos h, if_pos (by omega), if_pos (by omega)]; exact ⟨_, rfl⟩
  · rw [if_neg h]; exact ⟨_, rfl⟩
theorem isMod_f (l : List Int) : strings_HasPrefix.f (strOfNums l) ⟨#[0, 97, 115, 109, 1, 0, 0, 0]⟩ = some (isMod l) := by
  obtain ⟨r, h⟩ := hp_some (strOfNums l) ⟨#[0, 97, 115, 109, 1, 0, 0, 0]⟩
  unfold isMod
  rw [h]; rfl
/-- What Split of bytes tells. -/
def split (l : List Int) : Except (Int × Nat) (List S34) := if isMod l = true then spl (l.length + 1) l 8 0 [] else .error (2, 0)
def Res (W : World) (r : Except (Int × Nat) (List S34)) (e : Ending) (w' : World) : Prop :=
  match r with
  | .ok cs => ∃ A c, e = .returned (.tuple #[.slice A cs.length c, .nilIface]) ∧ k34.R 34 w' W.heap.size (fun _ => True) (.slice A cs.length c) cs ∧ Below W.heap.size W w'
  | .error q => ∃ p, e = .returned (.tuple #[.slice none 0 0, .iface 46 (.pointer (some ⟨p, 0, none⟩))]) ∧ w'.cell? ⟨p, 0, none⟩ = some (.int .i64 (q.2 : Int)) ∧ w'.cell? ⟨p, 1, none⟩ = some (.iface 41 (.int .i64 q.1)) ∧ W.heap.size ≤ p ∧ Below W.heap.size W w'
theorem cell_new (w : World) (cs : Array Value) (t : TypeId) (g i : Nat) (h : g = w.heap.size) : (w.alloc (.cells cs t)).cell? ⟨g, i, none⟩ = cs[i]? := cell_of_row _ g i cs t (0, 0) (by subst h; exact heap_alloc_new w _)
theorem str_at {w : World} {A : Option Addr} {c : Nat} {l : List Int} (h : U8.C w A l.length l) : (convert 22 9 (.slice A l.length c)).run Tryd.prog w = .ok (.string (strOfNums l)) w :=
  Kd.C_string (P := Tryd.prog) (A := A) (c := c) Tryd.underlying22 Tryd.underlying5 Tryd.underlying9 h
theorem info34 : (Tryd.prog.info? 34).map (fun i => (i.zero, i.size, i.bytes)) = some (some (.agg #[.int .i64 0, .int .i64 0, .slice none 0 0]), 3, 40) := by kernel_rfl
attribute [local go_sem] max2_int min2_int max_two min_two max_three min_three max_four min_four
set_option maxRecDepth 100000 in
set_option maxHeartbeats 8000000 in
theorem split_calls (W : World) (A : Option Addr) (c : Nat) (l : List Int) (h : U8.C W A l.length l) (hc : l.length ≤ c) (hb : Bytes l) (hl : l.length ≤ 100000) :
    Calls Tryd.prog 9 #[.slice A l.length c] W fun e w' => Res W (split l) e w' := by
  have H := Aside0.mk h
  have HBY := Aside0.mk hb
  have j1 := str_at (c := c) h
  have HP := Aside0.mk (fun W5 => strings_HasPrefix.calls (strOfNums l) ⟨#[0, 97, 115, 109, 1, 0, 0, 0]⟩ (isMod l) W5 (isMod_f l))
  cases hm : isMod l with
  | false =>
    rw [hm] at HP
    have hs : split l = .error (2, 0) := by unfold split; rw [hm]; rfl
    rw [hs]
    clear h hb hm hs
    go_enter Tryd.func9, Tryd.ntmps9
    go_wp2_with (go_at_call 17; (with_reducible refine (HP.out _).mono ?_); rintro e w1 ⟨rfl, ⟨nd, rfl⟩⟩)
    go_ret2
    refine ⟨W.heap.size, rfl, ?_, ?_, Nat.le_refl _, ?_⟩
    · exact cell_new _ _ _ _ _ (by first | rfl | simp)
    · exact cell_new _ _ _ _ _ (by first | rfl | simp)
    · exact (below_alloc (pw_below_drewN (Below.refl _ _) _) _)
  | true =>
    rw [hm] at HP
    have hs : split l = spl (l.length + 1) l 8 0 [] := by unfold split; rw [hm]; rfl
    rw [hs]
    clear h hb hm hs
    go_enter Tryd.func9, Tryd.ntmps9
    go_wp2_with (go_at_call 17; (with_reducible refine (HP.out _).mono ?_); rintro e w1 ⟨rfl, ⟨nd, rfl⟩⟩)
    go_loopg [4, 5, 6] (l.length + 1) (fun kq v4 v5 v6 w' => ∃ (at_ : Nat) (last : Int) (out : List S34) (A' : Option Addr) (c' : Nat), v4 = .slice A' out.length c' ∧ v5 = .int .i64 last ∧ v6 = .int .i64 (at_ : Int) ∧ at_ ≤ l.length + 8 ∧ l.length + 9 ≤ kq + at_ ∧ out.length ≤ 128 ∧ 0 ≤ last ∧ last ≤ 11 ∧ Aside0 (spl kq l at_ last out = spl (l.length + 1) l 8 0 []) ∧ Aside0 (k34.R 34 w' W.heap.size (fun _ => True) (.slice A' out.length c') out) ∧ Aside0 (Below W.heap.size W w'))
    case atStart => exact ⟨8, 0, [], none, 0, rfl, rfl, rfl, by omega, by omega, by simp, by omega, by omega, ⟨rfl⟩, ⟨Kd.R_nil _ _ _ _ _⟩, ⟨by repeat (first | exact Below.refl _ _ | apply pw_below_drewN | apply below_drew)⟩⟩
    case round =>
      obtain ⟨at_, last, out, A', c', rfl, rfl, rfl, h1, h2, h3, l0, l11, HQ, HO, HB⟩ := hrel
      cases gk with
      | zero =>
        have hge : l.length ≤ at_ := by omega
        have l1 : ((at_ : Int) < (l.length : Int)) = False := eq_false (by omega)
        have HQ2 := HQ.out
        rw [spl] at HQ2
        have HQ3 := Aside0.mk HQ2
        clear HQ2 HQ
        go_wp2_with fail
        go_ret2
        rw [← HQ3.out]
        exact ⟨A', c', rfl, HO.out, HB.out⟩
      | succ k2 =>
        have HQ' := HQ.out
        rw [spl] at HQ'
        by_cases hlt : at_ < l.length
        · rw [if_neg (by omega)] at HQ'
          have l1 : ((at_ : Int) < (l.length : Int)) = True := eq_true (by omega)
          have i0 : (0 : Int) ≤ (at_ : Int) := by omega
          have hrng := QSect.rd_bytes HBY.out (at_ : Int)
          obtain ⟨ad, rfl, hcell⟩ := Kd.at_int H.out (at_ : Int) i0 (by omega)
          simp only [Int.toNat_natCast] at hcell
          obtain ⟨id, hid⟩ : ∃ x, x = rd l (at_ : Int) := ⟨_, rfl⟩
          rw [← hid] at HQ' hrng hcell
          have hcw := (HB.out.cell (World.block_lt_of_cell? W _ hcell)).trans hcell
          have HC := Aside0.mk hcell
          clear hcell
          by_cases c1 : 11 < id
          · rw [if_pos (Or.inl c1)] at HQ'
            have d1 : decide (11 < id) = true := decide_eq_true c1
            have HQ2 := Aside0.mk HQ'
            clear HQ' HQ hid
            go_wp2_with fail
            go_ret2
            rw [← HQ2.out]
            refine ⟨wr.heap.size, rfl, ?_, ?_, HB.out.size, ?_⟩
            · exact cell_new _ _ _ _ _ (by first | rfl | simp)
            · exact cell_new _ _ _ _ _ (by first | rfl | simp)
            · exact (below_alloc (by repeat (first | exact HB.out | apply pw_below_drewN | apply below_drew)) _)

          · have d1 : decide (11 < id) = false := decide_eq_false c1
            by_cases c2 : 0 < id
            · have d2 : decide (0 < id) = true := decide_eq_true c2
              by_cases c3 : id ≤ last
              · rw [if_pos (Or.inr ⟨c2, c3⟩)] at HQ'
                have d3 : decide (id ≤ last) = true := decide_eq_true c3
                have HQ2 := Aside0.mk HQ'
                clear HQ' HQ hid
                go_wp2_with fail
                go_ret2
                rw [← HQ2.out]
                refine ⟨wr.heap.size, rfl, ?_, ?_, HB.out.size, ?_⟩
                · exact cell_new _ _ _ _ _ (by first | rfl | simp)
                · exact cell_new _ _ _ _ _ (by first | rfl | simp)
                · exact (below_alloc (by repeat (first | exact HB.out | apply pw_below_drewN | apply below_drew)) _)

              · rw [if_neg (by rintro (e | e); exact c1 e; exact c3 e.2)] at HQ'
                have d3 : decide (id ≤ last) = false := decide_eq_false c3
                clear hid
                by_cases h128 : out.length = 128
                · rw [if_pos h128] at HQ'
                  have b128 : ((out.length : Int) == 128) = true := by rw [beq_iff_eq]; omega
                  have HQ2 := Aside0.mk HQ'
                  clear HQ' HQ
                  go_wp2_with fail
                  go_ret2
                  rw [← HQ2.out]
                  refine ⟨wr.heap.size, rfl, ?_, ?_, HB.out.size, ?_⟩
                  · exact cell_new _ _ _ _ _ (by first | rfl | simp)
                  · exact cell_new _ _ _ _ _ (by first | rfl | simp)
                  · exact (below_alloc (by repeat (first | exact HB.out | apply pw_below_drewN | apply below_drew)) _)

                · rw [if_neg h128] at HQ'
                  have b128 : ((out.length : Int) == 128) = false := by rw [beq_eq_false_iff_ne]; omega
                  have e1 : ((at_ : Int) + 1) = ((at_ + 1 : Nat) : Int) := rfl
                  have ha1 : at_ + 1 ≤ l.length := hlt
                  cases hu : rdU l (at_ + 1) with
                  | none =>
                    rw [hu] at HQ'
                    have UC := Aside0.mk (show ∀ W5 : World, Below W.heap.size W W5 → Calls Tryd.prog 18 #[.slice (some ad) l.length c, .int .i64 ((at_ : Int) + 1), .int .i64 32] W5 fun e w' => e = .returned (.tuple #[.int .u64 0, .int .i64 0, .iface 41 (.int .i64 2)]) ∧ Drawn0 W5 w' from
                      fun W5 h5 => by rw [e1]; exact u_none HBY.out hl ha1 hu W5 (Kd.C_below H.out h5) hc)
                    have HQ2 := Aside0.mk HQ'
                    have E1 := Aside0.mk e1
                    clear HQ' HQ hu e1
                    go_wp2_with (go_at_call 18; (with_reducible refine (UC.out _ (by repeat (first | exact HB.out | apply pw_below_drewN | apply below_drew))).mono ?_); rintro e w5 ⟨rfl, ⟨nd, rfl⟩⟩)
                    go_ret2
                    rw [← HQ2.out]
                    refine ⟨wr.heap.size, rfl, ?_, ?_, HB.out.size, ?_⟩
                    · exact (cell_new _ _ _ _ _ (by first | rfl | simp)).trans (congrArg (fun x => some (Value.int IntKind.i64 x)) E1.out)
                    · exact cell_new _ _ _ _ _ (by first | rfl | simp)
                    · exact (below_alloc (by repeat (first | exact HB.out | apply pw_below_drewN | apply below_drew)) _)

                  | some p =>
                    obtain ⟨n, nx⟩ := p
                    rw [hu] at HQ'
                    obtain ⟨u1, u2, u3⟩ := rdU_facts HBY.out ha1 hu
                    have UC := Aside0.mk (show ∀ W5 : World, Below W.heap.size W W5 → Calls Tryd.prog 18 #[.slice (some ad) l.length c, .int .i64 ((at_ : Int) + 1), .int .i64 32] W5 fun e w' => e = .returned (.tuple #[.int .u64 (n : Int), .int .i64 (nx : Int), .nilIface]) ∧ Drawn0 W5 w' from
                      fun W5 h5 => by rw [e1]; exact u_some HBY.out hl ha1 hu W5 (Kd.C_below H.out h5) hc)
                    simp only at HQ'
                    have ew := wr_left l.length nx hl u2
                    have E1 := Aside0.mk e1
                    clear hu e1
                    by_cases hn : l.length - nx < n
                    · rw [if_pos hn] at HQ'
                      have bn : decide (((l.length - nx : Nat) : Int) < (n : Int)) = true := is_less hn
                      have HQ2 := Aside0.mk HQ'
                      clear HQ' HQ
                      go_wp2_with (go_at_call 18; (with_reducible refine (UC.out _ (by repeat (first | exact HB.out | apply pw_below_drewN | apply below_drew))).mono ?_); rintro e w5 ⟨rfl, ⟨nd, rfl⟩⟩)
                      go_ret2
                      rw [← HQ2.out]
                      refine ⟨wr.heap.size, rfl, ?_, ?_, HB.out.size, ?_⟩
                      · exact (cell_new _ _ _ _ _ (by first | rfl | simp)).trans (congrArg (fun x => some (Value.int IntKind.i64 x)) E1.out)
                      · exact cell_new _ _ _ _ _ (by first | rfl | simp)
                      · exact (below_alloc (by repeat (first | exact HB.out | apply pw_below_drewN | apply below_drew)) _)

                    · rw [if_neg hn] at HQ'
                      have bn : decide (((l.length - nx : Nat) : Int) < (n : Int)) = false := not_less hn
                      have en := wr_n' n u3
                      have en' := wr_n n u3
                      have hnl : nx + n ≤ l.length := fits_ hn u2
                      have et := wr_to nx n (Nat.le_trans u2 hl) (Nat.le_trans (Nat.le_trans (Nat.le_add_left n nx) hnl) hl)
                      obtain ⟨AM, hcut, hRM', hCM⟩ := mid (A := some ad) (Nat.le_add_right nx n) hnl hc
                      have hRM := hRM' W H.out
                      obtain ⟨LM, hLM⟩ : ∃ L, L = (l.take (nx + n)).drop nx := ⟨_, rfl⟩
                      simp only [← hLM] at hcut hRM hCM HQ'
                      have hlm : LM.length ≤ 100000 := by rw [hLM]; exact mid_len hnl hl
                      have CL := Aside0.mk (show ∀ W5 : World, Below W.heap.size W W5 → Calls Tryd.prog 19 #[.slice AM LM.length (c - nx)] W5 fun e w' => ∃ A' c', e = .returned (.slice A' LM.length c') ∧ U8.R 5 w' W5.heap.size (fun _ => True) (.slice A' LM.length c') LM ∧ Below W5.heap.size W5 w' from
                        fun W5 h5 => clone_b (Kd.C_below hRM h5) hCM hlm)
                      obtain ⟨tot, htot⟩ : ∃ t : Nat, t = nx + n := ⟨_, rfl⟩
                      rw [← htot] at et hcut HQ'
                      have HTT := Aside0.mk (tot_ok u1 hnl htot)
                      have HQ2 := Aside0.mk HQ'
                      have HLT := Aside0.mk (fun k hk => Kd.R_lt HO.out k hk)
                      have hn2 : (l.length - nx < n) = False := eq_false hn
                      clear HQ' HQ hLM hRM' hCM hRM hlm htot hnl u1 u2 u3
                      go_wp2_with (first
                        | (go_at_call 18; (with_reducible refine (UC.out _ (by repeat (first | exact HB.out | apply pw_below_drewN | apply below_drew))).mono ?_); rintro e w5 ⟨rfl, ⟨nd, rfl⟩⟩)
                        | (go_at_call 19; (with_reducible refine (CL.out _ (by repeat (first | exact HB.out | apply pw_below_drewN | apply below_drew))).mono ?_); rintro e w6 ⟨A6, c6, rfl, hR6, hB6⟩; have HR6 := Aside0.mk hR6; have HB6 := Aside0.mk (Below.trans (by repeat (first | exact HB.out | apply pw_below_drewN | apply below_drew)) (hB6.mono HB.out.size)); have HO6 := Aside0.mk (Kd.R_below (by (with_reducible repeat (first | apply Kd.R_alloc | apply Kd.R_drewN | apply Kd.R_drew)); exact HO.out) hB6); clear hR6 hB6)
                        | ((with_reducible refine gate_builtin (b := .append) (xs := #[.tmp 87, .tmp 96]) rfl ?_); at_builtin; refine Kd.R_append k34 (w0 := W) W.heap.size rfl (.tmp 87) (.tmp 96) 24 34 (.agg #[.int .i64 0, .int .i64 0, .slice none 0 0]) 40 rfl Tryd.underlying24 info34 rfl (by decide) (by omega) (.slice A' out.length c') out ⟨id, (nx : Int), LM⟩ [.int .i64 id, .int .i64 (nx : Int), .slice A6 LM.length c6] (fun _ => True) (fun k => wr.heap.size ≤ k) rfl rfl ?aP ?aK ?aF ?aO ?aB ?aS ?aL ?_; (case aP => exact k34_mkM _ _ _ ⟨id, (nx : Int), LM⟩ (Kd.R_lower (Kd.R_mono (Kd.R_bound HR6.out) (fun k hk => hk.2.1)) HB.out.size)); (case aK => exact (fun k hk => ⟨trivial, fun e => by have := HLT.out k e.symm; omega⟩)); (case aF => exact (fun _ _ => trivial)); (case aO => exact HO6.out); (case aB => exact HB6.out); (case aS => exact HB6.out.size); (case aL => omega); intro v97 w7 ho hb hg hat; have HO7 := Aside0.mk ho; have HB7 := Aside0.mk hb; clear ho hb hg hat))
                      go_roundg k2
                      case measure => omega
                      case rel =>
                        obtain ⟨A7, c7, rfl⟩ := Kd.R_slice HO7.out
                        exact ⟨tot, mx last id, out ++ [⟨id, (nx : Int), LM⟩], A7, c7, rfl, by first | rfl | (unfold mx; rfl) | (unfold mx; rw [if_pos (by omega)]) | (unfold mx; rw [if_neg (by omega)]), by first | rfl | rw [et], by have := HTT.out; omega, by have := HTT.out; omega, by simp; omega, by unfold mx; split <;> omega, by unfold mx; split <;> omega, HQ2, HO7, HB7⟩

            · rw [if_neg (by rintro (e | e); exact c1 e; exact c2 e.1)] at HQ'
              have d2 : decide (0 < id) = false := decide_eq_false c2
              clear hid
              by_cases h128 : out.length = 128
              · rw [if_pos h128] at HQ'
                have b128 : ((out.length : Int) == 128) = true := by rw [beq_iff_eq]; omega
                have HQ2 := Aside0.mk HQ'
                clear HQ' HQ
                go_wp2_with fail
                go_ret2
                rw [← HQ2.out]
                refine ⟨wr.heap.size, rfl, ?_, ?_, HB.out.size, ?_⟩
                · exact cell_new _ _ _ _ _ (by first | rfl | simp)
                · exact cell_new _ _ _ _ _ (by first | rfl | simp)
                · exact (below_alloc (by repeat (first | exact HB.out | apply pw_below_drewN | apply below_drew)) _)

              · rw [if_neg h128] at HQ'
                have b128 : ((out.length : Int) == 128) = false := by rw [beq_eq_false_iff_ne]; omega
                have e1 : ((at_ : Int) + 1) = ((at_ + 1 : Nat) : Int) := rfl
                have ha1 : at_ + 1 ≤ l.length := hlt
                cases hu : rdU l (at_ + 1) with
                | none =>
                  rw [hu] at HQ'
                  have UC := Aside0.mk (show ∀ W5 : World, Below W.heap.size W W5 → Calls Tryd.prog 18 #[.slice (some ad) l.length c, .int .i64 ((at_ : Int) + 1), .int .i64 32] W5 fun e w' => e = .returned (.tuple #[.int .u64 0, .int .i64 0, .iface 41 (.int .i64 2)]) ∧ Drawn0 W5 w' from
                    fun W5 h5 => by rw [e1]; exact u_none HBY.out hl ha1 hu W5 (Kd.C_below H.out h5) hc)
                  have HQ2 := Aside0.mk HQ'
                  have E1 := Aside0.mk e1
                  clear HQ' HQ hu e1
                  go_wp2_with (go_at_call 18; (with_reducible refine (UC.out _ (by repeat (first | exact HB.out | apply pw_below_drewN | apply below_drew))).mono ?_); rintro e w5 ⟨rfl, ⟨nd, rfl⟩⟩)
                  go_ret2
                  rw [← HQ2.out]
                  refine ⟨wr.heap.size, rfl, ?_, ?_, HB.out.size, ?_⟩
                  · exact (cell_new _ _ _ _ _ (by first | rfl | simp)).trans (congrArg (fun x => some (Value.int IntKind.i64 x)) E1.out)
                  · exact cell_new _ _ _ _ _ (by first | rfl | simp)
                  · exact (below_alloc (by repeat (first | exact HB.out | apply pw_below_drewN | apply below_drew)) _)

                | some p =>
                  obtain ⟨n, nx⟩ := p
                  rw [hu] at HQ'
                  obtain ⟨u1, u2, u3⟩ := rdU_facts HBY.out ha1 hu
                  have UC := Aside0.mk (show ∀ W5 : World, Below W.heap.size W W5 → Calls Tryd.prog 18 #[.slice (some ad) l.length c, .int .i64 ((at_ : Int) + 1), .int .i64 32] W5 fun e w' => e = .returned (.tuple #[.int .u64 (n : Int), .int .i64 (nx : Int), .nilIface]) ∧ Drawn0 W5 w' from
                    fun W5 h5 => by rw [e1]; exact u_some HBY.out hl ha1 hu W5 (Kd.C_below H.out h5) hc)
                  simp only at HQ'
                  have ew := wr_left l.length nx hl u2
                  have E1 := Aside0.mk e1
                  clear hu e1
                  by_cases hn : l.length - nx < n
                  · rw [if_pos hn] at HQ'
                    have bn : decide (((l.length - nx : Nat) : Int) < (n : Int)) = true := is_less hn
                    have HQ2 := Aside0.mk HQ'
                    clear HQ' HQ
                    go_wp2_with (go_at_call 18; (with_reducible refine (UC.out _ (by repeat (first | exact HB.out | apply pw_below_drewN | apply below_drew))).mono ?_); rintro e w5 ⟨rfl, ⟨nd, rfl⟩⟩)
                    go_ret2
                    rw [← HQ2.out]
                    refine ⟨wr.heap.size, rfl, ?_, ?_, HB.out.size, ?_⟩
                    · exact (cell_new _ _ _ _ _ (by first | rfl | simp)).trans (congrArg (fun x => some (Value.int IntKind.i64 x)) E1.out)
                    · exact cell_new _ _ _ _ _ (by first | rfl | simp)
                    · exact (below_alloc (by repeat (first | exact HB.out | apply pw_below_drewN | apply below_drew)) _)

                  · rw [if_neg hn] at HQ'
                    have bn : decide (((l.length - nx : Nat) : Int) < (n : Int)) = false := not_less hn
                    have en := wr_n' n u3
                    have en' := wr_n n u3
                    have hnl : nx + n ≤ l.length := fits_ hn u2
                    have et := wr_to nx n (Nat.le_trans u2 hl) (Nat.le_trans (Nat.le_trans (Nat.le_add_left n nx) hnl) hl)
                    obtain ⟨AM, hcut, hRM', hCM⟩ := mid (A := some ad) (Nat.le_add_right nx n) hnl hc
                    have hRM := hRM' W H.out
                    obtain ⟨LM, hLM⟩ : ∃ L, L = (l.take (nx + n)).drop nx := ⟨_, rfl⟩
                    simp only [← hLM] at hcut hRM hCM HQ'
                    have hlm : LM.length ≤ 100000 := by rw [hLM]; exact mid_len hnl hl
                    have CL := Aside0.mk (show ∀ W5 : World, Below W.heap.size W W5 → Calls Tryd.prog 19 #[.slice AM LM.length (c - nx)] W5 fun e w' => ∃ A' c', e = .returned (.slice A' LM.length c') ∧ U8.R 5 w' W5.heap.size (fun _ => True) (.slice A' LM.length c') LM ∧ Below W5.heap.size W5 w' from
                      fun W5 h5 => clone_b (Kd.C_below hRM h5) hCM hlm)
                    obtain ⟨tot, htot⟩ : ∃ t : Nat, t = nx + n := ⟨_, rfl⟩
                    rw [← htot] at et hcut HQ'
                    have HTT := Aside0.mk (tot_ok u1 hnl htot)
                    have HQ2 := Aside0.mk HQ'
                    have HLT := Aside0.mk (fun k hk => Kd.R_lt HO.out k hk)
                    have hn2 : (l.length - nx < n) = False := eq_false hn
                    clear HQ' HQ hLM hRM' hCM hRM hlm htot hnl u1 u2 u3
                    go_wp2_with (first
                      | (go_at_call 18; (with_reducible refine (UC.out _ (by repeat (first | exact HB.out | apply pw_below_drewN | apply below_drew))).mono ?_); rintro e w5 ⟨rfl, ⟨nd, rfl⟩⟩)
                      | (go_at_call 19; (with_reducible refine (CL.out _ (by repeat (first | exact HB.out | apply pw_below_drewN | apply below_drew))).mono ?_); rintro e w6 ⟨A6, c6, rfl, hR6, hB6⟩; have HR6 := Aside0.mk hR6; have HB6 := Aside0.mk (Below.trans (by repeat (first | exact HB.out | apply pw_below_drewN | apply below_drew)) (hB6.mono HB.out.size)); have HO6 := Aside0.mk (Kd.R_below (by (with_reducible repeat (first | apply Kd.R_alloc | apply Kd.R_drewN | apply Kd.R_drew)); exact HO.out) hB6); clear hR6 hB6)
                      | ((with_reducible refine gate_builtin (b := .append) (xs := #[.tmp 87, .tmp 96]) rfl ?_); at_builtin; refine Kd.R_append k34 (w0 := W) W.heap.size rfl (.tmp 87) (.tmp 96) 24 34 (.agg #[.int .i64 0, .int .i64 0, .slice none 0 0]) 40 rfl Tryd.underlying24 info34 rfl (by decide) (by omega) (.slice A' out.length c') out ⟨id, (nx : Int), LM⟩ [.int .i64 id, .int .i64 (nx : Int), .slice A6 LM.length c6] (fun _ => True) (fun k => wr.heap.size ≤ k) rfl rfl ?aP ?aK ?aF ?aO ?aB ?aS ?aL ?_; (case aP => exact k34_mkM _ _ _ ⟨id, (nx : Int), LM⟩ (Kd.R_lower (Kd.R_mono (Kd.R_bound HR6.out) (fun k hk => hk.2.1)) HB.out.size)); (case aK => exact (fun k hk => ⟨trivial, fun e => by have := HLT.out k e.symm; omega⟩)); (case aF => exact (fun _ _ => trivial)); (case aO => exact HO6.out); (case aB => exact HB6.out); (case aS => exact HB6.out.size); (case aL => omega); intro v97 w7 ho hb hg hat; have HO7 := Aside0.mk ho; have HB7 := Aside0.mk hb; clear ho hb hg hat))
                    go_roundg k2
                    case measure => omega
                    case rel =>
                      obtain ⟨A7, c7, rfl⟩ := Kd.R_slice HO7.out
                      exact ⟨tot, mx last id, out ++ [⟨id, (nx : Int), LM⟩], A7, c7, rfl, by first | rfl | (unfold mx; rfl) | (unfold mx; rw [if_pos (by omega)]) | (unfold mx; rw [if_neg (by omega)]), by first | rfl | rw [et], by have := HTT.out; omega, by have := HTT.out; omega, by simp; omega, by unfold mx; split <;> omega, by unfold mx; split <;> omega, HQ2, HO7, HB7⟩
        · rw [if_pos (by omega)] at HQ'
          have HQ2 := Aside0.mk HQ'
          have l1 : ((at_ : Int) < (l.length : Int)) = False := eq_false (by omega)
          clear HQ' HQ
          go_wp2_with fail
          go_ret2
          rw [← HQ2.out]
          exact ⟨A', c', rfl, HO.out, HB.out⟩
end Go.Proofs.YtibeoejnfpbcfaaDoor.Sx
