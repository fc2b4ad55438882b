/- The law LexBack, walked. -/
import Derived.Test.YtaidpcmndmjceaaDoorShw
namespace Go.Proofs.YtaidpcmndmjceaaDoor.Lx
open Go.RowKit Go.Proofs.YtaidpcmndmjceaaDoorW.PrintWords Go.Proofs.YtaidpcmndmjceaaDoorW.PrintLast Go.Proofs.YtaidpcmndmjceaaDoorW.PrintMore Go.Proofs.YtaidpcmndmjceaaDoor.RLexScans Go.Proofs.YtaidpcmndmjceaaDoor.Man
set_option linter.unusedVariables false
set_option linter.unusedSimpArgs false
theorem info5 : (Tryd.prog.info? 5).map (fun i => (i.zero, i.size, i.bytes)) = some (some (.int .u8 0), 1, 1) := by kernel_rfl
theorem str_size {l : List Int} (h : Bytes l) : (strOfNums l).size = l.length := by rw [← bytesOf_length, bytes_str h]
theorem shw_bytes (t : S36) : Bytes (shw t) := by
  unfold shw
  have hb := by_bytes t.f2
  split
  · intro y hy; simp only [List.mem_cons, List.not_mem_nil, or_false] at hy; omega
  · split
    · intro y hy; simp only [List.mem_cons, List.not_mem_nil, or_false] at hy; omega
    · split
      · intro y hy
        rcases List.mem_cons.1 hy with rfl | hy
        · omega
        · rcases List.mem_append.1 hy with hy | hy
          · exact hb y hy
          · simp only [List.mem_cons, List.not_mem_nil, or_false] at hy; omega
      · exact hb
theorem shows_bytes : ∀ es : List S36, Bytes (shows es)
  | [] => by intro y hy; cases hy
  | t :: r => by
    intro y hy
    rw [shows] at hy
    rcases List.mem_append.1 hy with hy | hy
    · exact shw_bytes t y hy
    · rcases List.mem_cons.1 hy with rfl | hy
      · omega
      · exact shows_bytes r y hy
theorem tok_size (t : S36) (ok : tokOK t) : t.f2.size ≤ (shw t).length := by
  unfold shw
  rcases ok with ⟨h0, h2⟩ | ⟨h0, h2⟩ | ⟨h0, hq⟩ | ⟨h0, hn, ha⟩
  · rw [h2, if_pos h0]; decide
  · rw [h2, if_neg (by omega), if_pos h0]; decide
  · rw [if_neg (by omega), if_neg (by omega), if_pos h0]
    simp only [List.length_cons, List.length_append, bytesOf_length]
    omega
  · rw [if_neg (by omega), if_neg (by omega), if_neg (by omega), bytesOf_length]; omega
theorem shows_at : ∀ (es : List S36) (i : Nat), i < es.length → shows (es.drop i) = shw (rd_T36 es (i : Int)) ++ 32 :: shows (es.drop (i + 1)) ∧ (shw (rd_T36 es (i : Int))).length ≤ (shows es).length ∧ rd_T36 es (i : Int) ∈ es
  | t :: r, 0, h => by
    refine ⟨rfl, ?_, List.mem_cons_self⟩
    rw [shows, List.length_append]
    exact Nat.le_add_right _ _
  | t :: r, i + 1, h => by
    have k := shows_at r i (by simpa using h)
    have e : rd_T36 (t :: r) ((i + 1 : Nat) : Int) = rd_T36 r (i : Int) := by unfold rd_T36; rw [Int.toNat_natCast, Int.toNat_natCast]; rfl
    rw [e, List.drop_succ_cons, List.drop_succ_cons]
    refine ⟨k.1, ?_, List.mem_cons_of_mem _ k.2.2⟩
    rw [shows, List.length_append, List.length_cons]
    have := k.2.1
    omega
theorem k36_ne5 : ∀ q, q ∈ 36 :: k36.E → q ≠ 5 := by
  intro q hq
  rcases List.mem_cons.1 hq with rfl | hq
  · decide
  · cases hq
attribute [local go_sem] max2_int min2_int max_two min_two max_three min_three max_four min_four
set_option maxRecDepth 100000 in
set_option maxHeartbeats 8000000 in
theorem back (W : World) (hG : GL W) (s : ByteArray) : Calls Tryd.prog 4 #[.string s] W fun e w' => e = .returned (.bool true) ∧ Below W.heap.size W w' := by
  have HG := Aside0.mk hG
  by_cases hs : s.size ≤ 20000
  · have g1 : decide ((20000 : Int) < (s.size : Int)) = false := decide_eq_false (by omega)
    have CS := Aside0.mk (fun W5 : World => scan_calls W5 s (by omega))
    cases hd : scan (bytesOf s) with
    | error q =>
      rw [hd] at CS
      clear hG hd hs
      go_enter Tryd.func4, Tryd.ntmps4
      go_wp2_with (first
      | (go_at_call 6; (refine (up_calls _ HG.out).mono ?_); rintro e w1 ⟨rfl, hB1⟩; have HB1 := Aside0.mk hB1; clear hB1)
      | (go_at_call 7; (refine (CS.out _).mono ?_); rintro e w2 ⟨p, rfl, p0, p1, pl, hB2⟩; have HB2 := Aside0.mk (HB1.out.trans (hB2.mono HB1.out.size)); clear p0 p1 pl hB2))
      go_ret
      exact ⟨rfl, HB2.out⟩
    | ok cs =>
      have hl := scL_len _ _ _ [] cs (by simp) hd
      obtain ⟨es, he, hOK, hSz⟩ := scL_ok _ _ _ [] cs (by_bytes s) hd
      rw [List.nil_append] at he
      subst he
      rw [bytesOf_length] at hSz
      obtain ⟨ds, hds, hk⟩ := rescan cs ((shows cs).length + 1) 0 [] hOK (by simp only [List.length_nil]; omega) (by have := shows_len cs hOK; omega)
      rw [List.nil_append] at hds
      have hds' : scan (bytesOf (strOfNums (shows cs))) = .ok ds := by rw [bytes_str (shows_bytes cs)]; exact hds
      have CS2 := Aside0.mk (fun W5 : World => by have z := scan_calls W5 (strOfNums (shows cs)) (by rw [str_size (shows_bytes cs)]; omega); rw [hds'] at z; exact z)
      have CM := Aside0.mk (fun (W5 : World) (A5 : Option Addr) (c5 : Nat) (A6 : Option Addr) (c6 : Nat) (h5 : k36.C W5 A5 cs.length cs) (hc5 : cs.length ≤ c5) (h6 : k36.C W5 A6 ds.length ds) (hc6 : ds.length ≤ c6) => grommetlaw09_Same.calls _ A5 c5 cs A6 c6 ds false true W5 h5 hc5 h6 hc6 (same_f cs ds false hk (by omega)))
      rw [hd] at CS
      have HOK := Aside0.mk (And.intro hOK (And.intro hl (show (shows cs).length ≤ 30000 by omega)))
      clear hG hd hs hl hSz hds hds' hk hOK
      go_enter Tryd.func4, Tryd.ntmps4
      go_wp2_with (first
      | (go_at_call 6; (refine (up_calls _ HG.out).mono ?_); rintro e w1 ⟨rfl, hB1⟩; have HB1 := Aside0.mk hB1; clear hB1)
      | (go_at_call 7; (refine (CS.out _).mono ?_); rintro e w2 ⟨A2, c2, rfl, hR2, hB2⟩; have HR2 := Aside0.mk (Kd.R_lower hR2 HB1.out.size); have HB2 := Aside0.mk (HB1.out.trans (hB2.mono HB1.out.size)); clear hR2 hB2))
      go_loopg [6, 7] (cs.length + 1) (fun kq v6 v7 w' => ∃ (x : Int) (bs : List Int) (A' : Option Addr) (c' : Nat), v6 = .slice A' bs.length c' ∧ v7 = .int .i64 x ∧ 0 ≤ x ∧ x ≤ (cs.length : Int) ∧ cs.length + 1 ≤ kq + x.toNat ∧ Aside0 (bs ++ shows (cs.drop x.toNat) = shows cs) ∧ Aside0 ((Kd.int .u8).R 5 w' W.heap.size (fun _ => True) (.slice A' bs.length c') bs) ∧ Aside0 (k36.R 36 w' W.heap.size (fun _ => True) (.slice A2 cs.length c2) cs) ∧ Aside0 (Below W.heap.size W w'))
      case atStart => exact ⟨0, [], none, 0, rfl, rfl, by omega, by omega, by simp, ⟨rfl⟩, ⟨Kd.R_nil _ _ _ _ _⟩, ⟨by (with_reducible repeat (first | apply Kd.R_alloc | apply Kd.R_drewN | apply Kd.R_drew)); exact HR2.out⟩, ⟨(by repeat (first | exact HB2.out | apply below_alloc | apply pw_below_drewN | apply below_drew))⟩⟩
      case round =>
        obtain ⟨x, bs, A', c', rfl, rfl, h1, h2, h3, HQ, HO, HR, HB⟩ := hrel
        cases gk with
        | zero => omega
        | succ k2 =>
          by_cases hlt : x < (cs.length : Int)
          · have c5b0 : decide (x < (cs.length : Int)) = true := decide_eq_true hlt
            have c6b0 : decide (0 ≤ x) = true := decide_eq_true h1
            have hsa := shows_at cs x.toNat (by omega)
            rw [Int.toNat_of_nonneg h1] at hsa
            have htok := tok_size _ (HOK.out.1 _ hsa.2.2)
            have hw : wrap64 (x + 1) = x + 1 := by unfold wrap64; have := HOK.out.2.1; omega
            have hw' : IntKind.i64.wrap (x + 1) = x + 1 := (i64_w _).trans hw
            obtain ⟨r, hr, hbr⟩ := show_f (rd_T36 cs x) (by have := HOK.out.2.2; omega)
            have hQ2 : (bs ++ bytesOf r ++ [32]) ++ shows (cs.drop (x + 1).toNat) = shows cs := by
              rw [← HQ.out, hsa.1, hbr, show (x + 1).toNat = x.toNat + 1 by omega]
              simp
            have HLB := Aside0.mk (show bs.length + r.size + 1 ≤ 40000 by have e := congrArg List.length hQ2; simp only [List.length_append, List.length_cons, List.length_nil, bytesOf_length] at e; have := HOK.out.2.2; omega)
            obtain ⟨bs2, hbs2⟩ : ∃ y, y = bs ++ bytesOf r := ⟨_, rfl⟩
            rw [← hbs2] at hQ2
            have HBS := Aside0.mk hbs2
            have HLB2 := Aside0.mk (show bs2.length + 1 ≤ 40000 by rw [hbs2, List.length_append, bytesOf_length]; exact HLB.out)
            clear hbs2
            have HQ2 := Aside0.mk hQ2
            have CSH := Aside0.mk (fun W5 : World => grommetref09_Show.calls _ _ _ r W5 hr)
            obtain ⟨ad, ead, x0, x1, x2⟩ := at_T36 (Kd.R_reads' HR.out).2.2 x h1 hlt
            cases ead
            have p1 := eq_true h1
            have q1 := eq_true hlt
            clear hr hbr hQ2 htok hsa hw HQ
            go_wp2_with (first
      | (go_at_call 11; (with_reducible refine (CSH.out _).mono ?_); rintro e w3 ⟨rfl, hB3⟩; have HO3 := Aside0.mk (Kd.R_below HO.out hB3); have HR3 := Aside0.mk (Kd.R_below HR.out hB3); have HB3 := Aside0.mk (HB.out.trans (hB3.mono HB.out.size)); clear hB3)
      | ((with_reducible refine gate_builtin (b := .append) (xs := #[.tmp 29, .tmp 34]) rfl ?_); at_builtin; refine print_append_str (w0 := W) W.heap.size rfl (.tmp 29) (.tmp 34) 33 9 5 rfl Tryd.underlying33 Tryd.underlying9 info5 (.slice A' bs.length c') bs r rfl rfl ?aO ?aB ?aS ?aL ?_; (case aO => exact Kd.own_of_R HO3.out); (case aB => exact HB3.out); (case aS => exact below_size HB3.out); (case aL => have := HLB.out; omega); intro v35 w4 ho hb hg; rw [← HBS.out] at ho; obtain ⟨A4, c4, rfl⟩ := own_slice ho; have HO4 := Aside0.mk (Kd.R_of_own (h1 := fun _ => rfl) (ok := fun _ => True) ho (fun _ _ => trivial) : (Kd.int .u8).R 5 w4 W.heap.size (fun _ => True) (.slice A4 bs2.length c4) bs2); have HR4 := Aside0.mk (Kd.R_mono (Kd.R_grown (Kd.R_apartR HR3.out HO3.out k36_ne5) hg (fun k hk => hk.2)) (fun _ _ => trivial) : k36.R 36 w4 W.heap.size (fun _ => True) (.slice (some ad) cs.length c2) cs); have HB4 := Aside0.mk hb; clear ho hb hg)
      | ((with_reducible refine gate_builtin (b := .append) (xs := #[.tmp 36, .tmp 37]) rfl ?_); at_builtin; refine Kd.R_append (Kd.int .u8) (w0 := W) W.heap.size rfl (.tmp 36) (.tmp 37) 33 5 (.int .u8 0) 1 rfl Tryd.underlying33 info5 rfl (by decide) (by omega) (.slice A4 bs2.length c4) bs2 32 [.int .u8 32] (fun _ => True) (fun _ => False) rfl rfl ?aP (fun _ hk => hk.elim) ?aF ?aO ?aB ?aS ?aL ?_; (case aP => exact rfl); (case aB => exact (by repeat (first | exact HB4.out | apply below_alloc | apply pw_below_drewN | apply below_drew))); (case aF => exact (fun _ _ => trivial)); (case aO => exact (by (with_reducible repeat (first | apply Kd.R_alloc | apply Kd.R_drewN | apply Kd.R_drew)); exact HO4.out)); (case aS => exact (below_size (by repeat (first | exact HB4.out | apply below_alloc | apply pw_below_drewN | apply below_drew)))); (case aL => have := HLB2.out; omega); intro v38 w5 ho hb hg hat; have HO5 := Aside0.mk ho; have HR5 := Aside0.mk (Kd.R_mono (Kd.R_grown (Kd.R_apartR HR4.out HO4.out k36_ne5) hg (fun k hk => hk.2)) (fun _ _ => trivial) : k36.R 36 w5 W.heap.size (fun _ => True) (.slice (some ad) cs.length c2) cs); have HB5 := Aside0.mk hb; clear ho hb hg hat))
            go_roundg k2
            case measure => omega
            case rel =>
              obtain ⟨A7, c7, rfl⟩ := Kd.R_slice HO5.out
              exact ⟨x + 1, bs2 ++ [32], A7, c7, rfl, (by first | rfl | (simp; done) | (simp [*]; done)), by omega, by omega, by omega, HQ2, HO5, HR5, HB5⟩
          · have c5b0 : decide (x < (cs.length : Int)) = false := decide_eq_false hlt
            have hx : x.toNat = cs.length := by omega
            have hQ := HQ.out
            rw [hx, List.drop_eq_nil_of_le (Nat.le_refl _), shows, List.append_nil] at hQ
            subst hQ
            have hj := own_string (src := 33) (dst := 9) Tryd.underlying33 Tryd.underlying5 Tryd.underlying9 (Kd.own_of_R HO.out)
            clear hx HQ hlt
            go_wp2_with (first
      | (go_at_call 7; (refine (CS2.out _).mono ?_); rintro e w6 ⟨A6, c6, rfl, hR6, hB6⟩; have HR6 := Aside0.mk (Kd.R_reads' hR6); have HC2 := Aside0.mk (Kd.R_reads' (Kd.R_below HR.out hB6)); have HB6 := Aside0.mk (HB.out.trans (hB6.mono HB.out.size)); clear hR6 hB6)
      | (go_at_call 10; (refine (CM.out _ _ _ _ _ HC2.out.2.2 HC2.out.2.1 HR6.out.2.2 HR6.out.2.1).mono ?_); rintro e w7 ⟨rfl, hD7⟩; have HB7 := Aside0.mk (HB6.out.trans (hD7.below.mono HB6.out.size)); clear hD7))
            go_ret
            exact ⟨rfl, HB7.out⟩
  · have g1 : decide ((20000 : Int) < (s.size : Int)) = true := decide_eq_true (by omega)
    clear hG hs
    go_enter Tryd.func4, Tryd.ntmps4
    go_wp2_with (go_at_call 6; (refine (up_calls _ HG.out).mono ?_); rintro e w1 ⟨rfl, hB1⟩; have HB1 := Aside0.mk hB1; clear hB1)
    go_ret
    exact ⟨rfl, HB1.out⟩
end Go.Proofs.YtaidpcmndmjceaaDoor.Lx
