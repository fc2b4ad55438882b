/- The law SectMore, walked. -/
import Derived.Test.YtibeoejnfpbcfaaDoorSj0
import Derived.BigQuiet
namespace Go.Proofs.YtibeoejnfpbcfaaDoor.Sx
open Go.RowKit Go.Proofs.YtibeoejnfpbcfaaDoorW.PrintWords Go.Proofs.YtibeoejnfpbcfaaDoorW.PrintLast Go.Proofs.YtibeoejnfpbcfaaDoorW.PrintMore Go.Proofs.YtibeoejnfpbcfaaDoor.RSectSplits Go.Proofs.YtibeoejnfpbcfaaDoor.Leb Go.Proofs.YtibeoejnfpbcfaaDoor.Man
set_option linter.unusedVariables false
set_option linter.unusedSimpArgs false
theorem take_snoc (l : List S34) (x : S34) : (l ++ [x]).take l.length = l := by simp
theorem rd_snoc (l : List S34) (x : S34) : rd_T34 (l ++ [x]) (l.length : Int) = x := by
  unfold rd_T34
  rw [Int.toNat_natCast, List.getD_eq_getElem?_getD, List.getElem?_append_right (Nat.le_refl _), Nat.sub_self]
  rfl
set_option maxRecDepth 100000 in
set_option maxHeartbeats 8000000 in
theorem more_in (W : World) (hG : GL W) (A : Option Addr) (c : Nat) (b : List Int) (hA : U8.C W A b.length b) (hc : b.length ≤ c) (bb : Bytes b) (B : Option Addr) (d : Nat) (bs : List Int) (hB : U8.C W B bs.length bs) (hd : bs.length ≤ d) (bbs : Bytes bs) (lb : b.length ≤ 3000) (ls : bs.length ≤ 100) :
    Calls Tryd.prog 7 #[.slice A b.length c, .slice B bs.length d] W fun e w' => e = .returned (.bool true) ∧ Below W.heap.size W w' := by
  have HG := Aside0.mk hG
  have HA := Aside0.mk hA
  have HBS := Aside0.mk hB
  have CC := Aside0.mk (show ∀ W5 : World, Below W.heap.size W W5 → Calls Tryd.prog 9 #[.slice A b.length c] W5 fun e w' => Res W5 (split b) e w' from
    fun W5 h5 => split_calls W5 A c b (Kd.C_below hA h5) hc bb (by omega))
  have g1 : decide ((3000 : Int) < (b.length : Int)) = false := decide_eq_false (by omega)
  have g2 : decide ((100 : Int) < (bs.length : Int)) = false := decide_eq_false (by omega)
  have g1' : ((3000 : Int) < (b.length : Int)) = False := eq_false (by omega)
  have g2' : ((100 : Int) < (bs.length : Int)) = False := eq_false (by omega)
  cases hd0 : split b with
  | error q =>
    obtain ⟨bad, i⟩ := q
    rw [hd0] at CC
    clear hG hA hB bb bbs lb ls hd0
    go_enter Tryd.func7, Tryd.ntmps7
    go_wp2_with (first
      | (go_at_call 8; (refine (grommetlaw07_up.calls true _ HG.out rfl).mono ?_); rintro e w1 ⟨rfl, hB1⟩; have HB1 := Aside0.mk hB1; clear hB1)
      | (go_at_call 9; (with_reducible refine (CC.out _ HB1.out).mono ?_); rintro e w2 ⟨p, rfl, p0, p1, pl, hB2⟩; have HB2 := Aside0.mk (HB1.out.trans (hB2.mono HB1.out.size)); clear p0 p1 pl hB2))
    go_ret
    exact ⟨rfl, HB2.out⟩
  | ok l =>
    rw [hd0] at CC
    by_cases h128 : 128 ≤ l.length
    · have g3 : decide ((128 : Int) ≤ (l.length : Int)) = true := decide_eq_true (by omega)
      clear hG hA hB bb bbs lb ls hd0 h128
      go_enter Tryd.func7, Tryd.ntmps7
      go_wp2_with (first
      | (go_at_call 8; (refine (grommetlaw07_up.calls true _ HG.out rfl).mono ?_); rintro e w1 ⟨rfl, hB1⟩; have HB1 := Aside0.mk hB1; clear hB1)
      | (go_at_call 9; (with_reducible refine (CC.out _ HB1.out).mono ?_); rintro e w2 ⟨A2, c2, rfl, hR2, hB2⟩; have HR2 := Aside0.mk hR2; have HB2 := Aside0.mk (HB1.out.trans (hB2.mono HB1.out.size)); clear hR2 hB2))
      go_ret
      exact ⟨rfl, HB2.out⟩
    · have l127 : l.length ≤ 127 := by omega
      have hm := split_more bb (show bs.length < 128 by omega) hd0 (by omega)
      have g3 : decide ((128 : Int) ≤ (l.length : Int)) = false := decide_eq_false (by omega)
      have ec : IntKind.u8.wrap (bs.length : Int) = (bs.length : Int) := by rw [IntKind.wrap_u8]; omega
      have ec' : (bs.length : Int) % 256 = (bs.length : Int) := by omega
      obtain ⟨mo, hmo⟩ : ∃ m, m = [0, (bs.length : Int)] ++ bs := ⟨_, rfl⟩
      obtain ⟨BB, hBB⟩ : ∃ m, m = [] ++ b ++ mo := ⟨_, rfl⟩
      have hBB' : b ++ 0 :: (bs.length : Int) :: bs = BB := by rw [hBB, hmo]; simp
      have HBL := Aside0.mk (show mo.length ≤ 102 ∧ BB.length ≤ 3102 by rw [hBB, hmo]; simp; omega)
      obtain ⟨k, hk⟩ : ∃ k, k = l ++ [⟨0, ((b.length + 2 : Nat) : Int), bs⟩] := ⟨_, rfl⟩
      have hBy : Bytes BB := by
        rw [← hBB']
        refine bb.append ?_
        intro x hx
        rcases List.mem_cons.1 hx with rfl | hx
        · omega
        · rcases List.mem_cons.1 hx with rfl | hx
          · omega
          · exact bbs x hx
      rw [hBB', ← hk] at hm
      have CC2 := Aside0.mk (show ∀ (W5 : World) (A5 : Option Addr) (c5 : Nat), U8.C W5 A5 BB.length BB → BB.length ≤ c5 → Calls Tryd.prog 9 #[.slice A5 BB.length c5] W5 fun e w' => Res W5 (.ok k) e w' from
        fun W5 A5 c5 h5 hc5 => by have z := split_calls W5 A5 c5 BB h5 hc5 hBy (by have := HBL.out.2; omega); rw [hm] at z; exact z)
      have HMO := Aside0.mk hmo
      have HBB := Aside0.mk hBB
      have HK := Aside0.mk hk
      have HLS := Aside0.mk (And.intro lb ls)
      clear hmo hBB hk hBB' hm hBy hG hA hB bb bbs hd0 h128 lb
      go_enter Tryd.func7, Tryd.ntmps7
      go_upto_region 8 with (first
      | (go_at_call 8; (refine (grommetlaw07_up.calls true _ HG.out rfl).mono ?_); rintro e w1 ⟨rfl, hB1⟩; have HB1 := Aside0.mk hB1; clear hB1)
      | (go_at_call 9; (with_reducible refine (CC.out _ HB1.out).mono ?_); rintro e w2 ⟨A2, c2, rfl, hR2, hB2⟩; have HR2 := Aside0.mk hR2; have HB2 := Aside0.mk (HB1.out.trans (hB2.mono HB1.out.size)); clear hR2 hB2)
      | ((with_reducible refine gate_dst (N := 37) rfl ?_); refine Kd.R_lit (Kd.int .u8) _ 5 ?hg (N := 37) ?hd (xs := ([0, (bs.length : Int)] : List Int)) (inner := [.int .u8 0, .int .u8 (bs.length : Int)]) (ok := fun _ => True) (okp := fun _ => True) ?hr ?hp (fun _ hk => hk) trivial (Below.refl _ _) (Nat.le_refl _) (by simp) ?_; (case hd => rfl); (case hg => rfl); (case hr => first | (go_simp; done) | (go_simp; rfl)); (case hp => exact (Reps.one (show Kd.M (Kd.int .u8) _ _ _ 0 [.int .u8 0] from rfl) (Reps.one (show Kd.M (Kd.int .u8) _ _ _ (bs.length : Int) [.int .u8 (bs.length : Int)] from rfl) (Reps.none _ _)))); intro v37 w3 ho hb hg_ hnew_; clear hg_ hnew_; have HO3 := Aside0.mk ho; have HB3 := Aside0.mk hb; clear ho hb)
      | ((with_reducible refine gate_builtin (b := .append) (xs := #[.tmp 37, .tmp 38]) rfl ?_); at_builtin; refine Kd.R_append_rows (Kd.int .u8) (w0 := w2) w2.heap.size rfl (.tmp 37) (.tmp 38) 22 5 (.int .u8 0) 1 rfl Tryd.underlying22 info5 rfl (by decide) (by omega) v37 [0, (bs.length : Int)] bs _ _ _ (fun _ => True) (fun _ => False) rfl rfl ?aO ?aR (fun _ _ h => h) (fun _ h => h.elim) ?aF ?aB ?aS ?aL ?_; (case aR => exact (Kd.C_below (Kd.C_below HBS.out HB2.out) (by repeat (first | exact HB3.out | apply below_alloc | apply pw_below_drewN | apply below_drew)))); (case aB => exact (by repeat (first | exact HB3.out | apply below_alloc | apply pw_below_drewN | apply below_drew))); (case aF => exact (fun _ _ => trivial)); (case aO => exact (by (with_reducible repeat (first | apply Kd.R_alloc | apply Kd.R_drewN | apply Kd.R_drew)); exact HO3.out)); (case aS => exact (below_size (by repeat (first | exact HB3.out | apply below_alloc | apply pw_below_drewN | apply below_drew)))); (case aL => (have := HLS.out.2; simp; omega)); intro v39 w5 ho hb hg hat; have ho2 := ho; rw [← HMO.out] at ho2; obtain ⟨A5, c5, e5⟩ := Kd.R_slice ho2; subst e5; have HO5 := Aside0.mk ho2; have HB5 := Aside0.mk hb; clear ho ho2 hb hg hat))
      have HB7 := Aside0.mk (HB2.out.trans (HB5.out.mono HB2.out.size))
      go_upto_region 9 with (first
      | ((with_reducible refine gate_dst (N := 41) rfl ?_); refine Kd.R_lit (Kd.int .u8) _ 5 ?hg (N := 41) ?hd (xs := ([] : List Int)) (inner := []) (ok := fun _ => True) (okp := fun _ => True) ?hr ?hp (fun _ hk => hk) trivial (Below.refl _ _) (Nat.le_refl _) (by simp) ?_; (case hd => rfl); (case hg => rfl); (case hr => first | (go_simp; done) | (go_simp; rfl)); (case hp => exact (Reps.none _ _)); intro v41 w6 ho hb hg_ hnew_; clear hg_ hnew_; have HO6 := Aside0.mk ho; have HB6 := Aside0.mk hb; clear ho hb)
      | ((with_reducible refine gate_builtin (b := .append) (xs := #[.tmp 41, .tmp 42]) rfl ?_); at_builtin; refine Kd.R_append_rows (Kd.int .u8) (w0 := w5) w5.heap.size rfl (.tmp 41) (.tmp 42) 22 5 (.int .u8 0) 1 rfl Tryd.underlying22 info5 rfl (by decide) (by omega) v41 ([] : List Int) b _ _ _ (fun _ => True) (fun _ => False) rfl rfl ?aO ?aR (fun _ _ h => h) (fun _ h => h.elim) ?aF ?aB ?aS ?aL ?_; (case aR => exact (Kd.C_below (Kd.C_below HA.out HB7.out) (by repeat (first | exact HB6.out | apply below_alloc | apply pw_below_drewN | apply below_drew)))); (case aB => exact (by repeat (first | exact HB6.out | apply below_alloc | apply pw_below_drewN | apply below_drew))); (case aF => exact (fun _ _ => trivial)); (case aO => exact (by (with_reducible repeat (first | apply Kd.R_alloc | apply Kd.R_drewN | apply Kd.R_drew)); exact HO6.out)); (case aS => exact (below_size (by repeat (first | exact HB6.out | apply below_alloc | apply pw_below_drewN | apply below_drew)))); (case aL => (have := HLS.out.1; simp; omega)); intro v43 w7 ho hb hg hat; have HO7 := Aside0.mk ho; have HB8 := Aside0.mk hb; clear ho hb hg hat)
      | ((with_reducible refine gate_builtin (b := .append) (xs := #[.tmp 43, .tmp 44]) rfl ?_); at_builtin; refine Kd.R_append_rows (Kd.int .u8) (w0 := w5) w5.heap.size rfl (.tmp 43) (.tmp 44) 22 5 (.int .u8 0) 1 rfl Tryd.underlying22 info5 rfl (by decide) (by omega) v43 ([] ++ b) mo _ _ _ (fun _ => True) (fun _ => False) rfl rfl ?aO ?aR (fun _ _ h => h) (fun _ h => h.elim) ?aF ?aB ?aS ?aL ?_; (case aR => exact (Kd.C_below (Kd.R_reads' HO5.out).2.2 (by repeat (first | exact HB8.out | apply below_alloc | apply pw_below_drewN | apply below_drew)))); (case aB => exact (by repeat (first | exact HB8.out | apply below_alloc | apply pw_below_drewN | apply below_drew))); (case aF => exact (fun _ _ => trivial)); (case aO => exact (by (with_reducible repeat (first | apply Kd.R_alloc | apply Kd.R_drewN | apply Kd.R_drew)); exact HO7.out)); (case aS => exact (below_size (by repeat (first | exact HB8.out | apply below_alloc | apply pw_below_drewN | apply below_drew)))); (case aL => (have := HLS.out.1; have := HBL.out.1; simp; omega)); intro v45 w8 ho hb hg hat; have ho2 := ho; rw [← HBB.out] at ho2; obtain ⟨A8, c8, e8⟩ := Kd.R_slice ho2; subst e8; have HO8 := Aside0.mk ho2; have HB88 := Aside0.mk hb; clear ho ho2 hb hg hat)
      | (go_at_call 9; (with_reducible refine (CC2.out _ A8 c8 (Kd.R_reads' HO8.out).2.2 (Kd.R_reads' HO8.out).2.1).mono ?_); rintro e w9 ⟨A9, c9, rfl, hR9, hB9⟩; have HR9 := Aside0.mk hR9; have HB59b := Aside0.mk (HB88.out.trans (hB9.mono HB88.out.size)); clear hR9 hB9))
      have HB59 := Aside0.mk ((HB5.out.trans (HB59b.out.mono HB5.out.size)))
      have HBW9 := Aside0.mk (HB2.out.trans (HB59.out.mono HB2.out.size))
      clear HO3 HO5 HO6 HO7 HO8 HB3 HB6 HB8 HB88 HB59b
      obtain ⟨_, lca, hca⟩ := Kd.R_reads' HR2.out
      obtain ⟨_, lck, hck⟩ := Kd.R_reads' HR9.out
      have hca9 := Kd.C_below hca HB59.out
      have klen : k.length = l.length + 1 := by rw [HK.out]; simp
      have hck' : k34.C w9 A9 l.length l := by
        have z := Kd.C_take hck (m := l.length) (by omega)
        rw [HK.out, take_snoc] at z
        exact z
      obtain ⟨i34, hi34, _⟩ := Option.map_eq_some_iff.1 info34
      have hcut := cut_to (P := Tryd.prog) 24 34 .i64 Tryd.underlying24 hi34 A9 k.length c9 (l.length : Int) (by omega) (by omega) lck
      rw [Int.toNat_natCast] at hcut
      have SM := Aside0.mk (show ∀ W5 : World, Below w9.heap.size w9 W5 → Calls Tryd.prog 12 #[.slice A9 l.length c9, .slice A2 l.length c2] W5 fun e w' => e = .returned (.bool true) ∧ Drawn0 W5 w' from
        fun W5 h5 => grommetref07_Same.calls _ A9 c9 l A2 c2 l true W5 (Kd.C_below hck' h5) (by omega) (Kd.C_below hca9 h5) lca (same_self l (by omega)))
      have kn : ((k.length : Int) != (l.length : Int) + 1) = false := by rw [bne_eq_false_iff_eq]; omega
      obtain ⟨ad, A11, c11, rfl, x0, x1, x2, xl, xC⟩ := at_T34 hck (l.length : Int) (by omega) (by omega)
      simp only [Int.toNat_natCast] at x0 x1 x2
      have hrd : rd_T34 k (l.length : Int) = ⟨0, ((b.length + 2 : Nat) : Int), bs⟩ := by rw [HK.out, rd_snoc]
      rw [hrd] at x0 x1 x2 xl xC
      have e2 : ((b.length + 2 : Nat) : Int) = (b.length : Int) + 2 := by omega
      simp only at x0 x1 x2 xl xC
      rw [e2] at x1
      have J1 := Aside0.mk (fun m n : Nat => str_at (c := c11) (Kd.C_drewN (Kd.C_drewN xC m) n))
      have J2 := Aside0.mk (fun m n : Nat => str_at (c := d) (Kd.C_drewN (Kd.C_drewN (Kd.C_below HBS.out HBW9.out) m) n))
      have i1 : ((l.length : Int) < (k.length : Int)) = True := eq_true (by omega)
      have i2 : (0 : Int) ≤ (l.length : Int) := by omega
      have i3 : decide ((l.length : Int) < (k.length : Int)) = true := decide_eq_true (by omega)
      have hsum : IntKind.i64.wrap ((b.length : Int) + 2) = (b.length : Int) + 2 := by have := HLS.out.1; rw [IntKind.wrap_i64]; omega
      clear e2 hrd hck hck' hca hca9 klen xC CC2 HR2 HR9
      go_upto_region 11 with (go_at_call 12; (with_reducible refine (SM.out _ (Below.refl _ _)).mono ?_); rintro e w10 ⟨rfl, ⟨nd, rfl⟩⟩)
      have j1 := J1.out nd
      have j2 := J2.out nd
      have j3 := J1.out 0
      have j4 := J2.out 0
      have j5 : ∀ n : Nat, (convert 22 9 (.slice A11 bs.length c11)).run Tryd.prog (w9.drewN n) = .ok (.string (strOfNums bs)) (w9.drewN n) := J1.out 0
      have j6 : ∀ n : Nat, (convert 22 9 (.slice B bs.length d)).run Tryd.prog (w9.drewN n) = .ok (.string (strOfNums bs)) (w9.drewN n) := J2.out 0
      clear j3 j4
      go_quiet (fail)
      go_wp2_with fail
      go_ret
      exact ⟨rfl, pw_below_drewN (pw_below_drewN HBW9.out _) _⟩
theorem more (W : World) (hG : GL W) (A : Option Addr) (c : Nat) (b : List Int) (hA : U8.C W A b.length b) (hc : b.length ≤ c) (bb : Bytes b) (B : Option Addr) (d : Nat) (bs : List Int) (hB : U8.C W B bs.length bs) (hd : bs.length ≤ d) (bbs : Bytes bs) :
    Calls Tryd.prog 7 #[.slice A b.length c, .slice B bs.length d] W fun e w' => e = .returned (.bool true) ∧ Below W.heap.size W w' := by
  by_cases lb : b.length ≤ 3000
  · by_cases ls : bs.length ≤ 100
    · exact more_in W hG A c b hA hc bb B d bs hB hd bbs lb ls
    · have HG := Aside0.mk hG
      have g1 : decide ((3000 : Int) < (b.length : Int)) = false := decide_eq_false (by omega)
      have g2 : decide ((100 : Int) < (bs.length : Int)) = true := decide_eq_true (by omega)
      clear hG hA hB bb bbs lb ls
      go_enter Tryd.func7, Tryd.ntmps7
      go_wp2_with (go_at_call 8; (refine (grommetlaw07_up.calls true _ HG.out rfl).mono ?_); rintro e w1 ⟨rfl, hB1⟩; have HB1 := Aside0.mk hB1; clear hB1)
      go_ret
      exact ⟨rfl, HB1.out⟩
  · have HG := Aside0.mk hG
    have g1 : decide ((3000 : Int) < (b.length : Int)) = true := decide_eq_true (by omega)
    clear hG hA hB bb bbs lb
    go_enter Tryd.func7, Tryd.ntmps7
    go_wp2_with (go_at_call 8; (refine (grommetlaw07_up.calls true _ HG.out rfl).mono ?_); rintro e w1 ⟨rfl, hB1⟩; have HB1 := Aside0.mk hB1; clear hB1)
    go_ret
    exact ⟨rfl, HB1.out⟩
end Go.Proofs.YtibeoejnfpbcfaaDoor.Sx
