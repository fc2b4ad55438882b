/- lex.Scan over any text, by its contract. -/
import Derived.Test.YtaidpcmndmjceaaDoorLx1
import Derived.Test.YtaidpcmndmjceaaDoorErr2
namespace Go.Proofs.YtaidpcmndmjceaaDoor.Lx
open Go.RowKit Go.Proofs.YtaidpcmndmjceaaDoorW.PrintWords Go.Proofs.YtaidpcmndmjceaaDoorW.PrintLast Go.Proofs.YtaidpcmndmjceaaDoorW.PrintMore Go.Proofs.YtaidpcmndmjceaaDoor.RLexScans Go.Proofs.YtaidpcmndmjceaaDoor.Man
set_option linter.unusedVariables false
set_option linter.unusedSimpArgs false
/-- What Scan tells. -/
def Res (W : World) (r : Except (Int × Nat) (List S36)) (e : Ending) (w' : World) : Prop :=
  match r with
  | .ok cs => ∃ A c, e = .returned (.tuple #[.slice A cs.length c, .nilIface]) ∧ k36.R 36 w' W.heap.size (fun _ => True) (.slice A cs.length c) cs ∧ Below W.heap.size W w'
  | .error q => ∃ p, e = .returned (.tuple #[.slice none 0 0, .iface 44 (.pointer (some ⟨p, 0, none⟩))]) ∧ w'.cell? ⟨p, 0, none⟩ = some (.int .i64 (q.2 : Int)) ∧ w'.cell? ⟨p, 1, none⟩ = some (.iface 42 (.int .i64 q.1)) ∧ W.heap.size ≤ p ∧ Below W.heap.size W w'
theorem cell_new (w : World) (cs : Array Value) (t : TypeId) (g i : Nat) (h : g = w.heap.size) : (w.alloc (.cells cs t)).cell? ⟨g, i, none⟩ = cs[i]? := cell_of_row _ g i cs t (0, 0) (by subst h; exact heap_alloc_new w _)
set_option maxRecDepth 100000 in
set_option maxHeartbeats 8000000 in
theorem scan_calls (W : World) (s : ByteArray) (hs : s.size ≤ 100000) :
    Calls Tryd.prog 7 #[.string s] W fun e w' => Res W (scan (bytesOf s)) e w' := by
  obtain ⟨sc, hsc⟩ : ∃ x, x = scan (bytesOf s) := ⟨_, rfl⟩
  rw [← hsc]
  have H0 := Aside0.mk (show scL (s.size + 1) ((bytesOf s).drop 0) 0 [] = sc by rw [hsc, List.drop_zero]; unfold scan; rw [bytesOf_length])
  have HS := Aside0.mk hs
  clear hsc hs
  go_enter Tryd.func7, Tryd.ntmps7
  go_wp2_with fail
  go_loopg [4, 5] (s.size + 1) (fun kq v4 v5 w' => ∃ (at_ : Nat) (out : List S36) (A' : Option Addr) (c' : Nat), v4 = .slice A' out.length c' ∧ v5 = .int .i64 (at_ : Int) ∧ at_ ≤ s.size ∧ s.size + 1 ≤ kq + at_ ∧ out.length ≤ 4096 ∧ Aside0 (scL kq ((bytesOf s).drop at_) at_ out = sc) ∧ Aside0 (k36.R 36 w' W.heap.size (fun _ => True) (.slice A' out.length c') out) ∧ Aside0 (Below W.heap.size W w'))
  case atStart => exact ⟨0, [], none, 0, rfl, rfl, by omega, by omega, by simp, H0, ⟨Kd.R_nil _ _ _ _ _⟩, ⟨by repeat (first | exact Below.refl _ _ | apply pw_below_drewN | apply below_drew)⟩⟩
  case round =>
    obtain ⟨at_, out, A', c', rfl, rfl, h1, h2, h3, HQ, HO, HB⟩ := hrel
    clear H0
    cases gk with
    | zero => omega
    | succ k2 =>
      have HQ' := HQ.out
      rw [scL] at HQ'
      by_cases hlt : at_ < s.size
      · have hne : ¬ (bytesOf s).drop at_ = [] := by rw [drop_bt s at_ hlt]; simp
        rw [if_neg hne] at HQ'
        have l1 : ((at_ : Int) < (s.size : Int)) = True := eq_true (by omega)
        have CK := Aside0.mk (fun W5 : World => lex_skip.calls (s.size + 2) s (at_ : Int) _ W5 (skip_f s HS.out at_ _ hlt (Nat.le_refl _)))
        have CT := Aside0.mk (fun W5 : World => lex_token.calls (2 * s.size + 2) s (at_ : Int) _ _ _ _ W5 (token_f s HS.out at_ _ hlt (Nat.le_refl _)))
        cases hg : gapN ((bytesOf s).drop at_) with
        | none =>
          rw [hg] at HQ' CK
          simp only [pos] at CK
          have t1 : decide ((at_ : Int) < -1) = false := decide_eq_false (by omega)
          have HQ2 := Aside0.mk HQ'
          clear HQ' HQ hg CT hne
          go_wp2_with (go_at_call 14; (with_reducible refine (CK.out _).mono ?_); rintro e w1 ⟨rfl, hD1⟩; have HB1 := Aside0.mk (HB.out.trans (hD1.below.mono HB.out.size)); have HO1 := Aside0.mk (Kd.R_below HO.out hD1.below); clear hD1)
          go_ret2
          rw [← HQ2.out]
          refine ⟨_, rfl, ?_, ?_, ?_, ?_⟩
          · exact cell_new _ _ _ _ _ (by first | rfl | simp)
          · exact cell_new _ _ _ _ _ (by first | rfl | simp)
          · exact Nat.le_trans (below_size (by repeat (first | exact HB1.out | apply below_alloc | apply pw_below_drewN | apply below_drew))) (by first | exact Nat.le_refl _ | simp)
          · exact (below_alloc (by repeat (first | exact HB1.out | apply below_alloc | apply pw_below_drewN | apply below_drew)) _)

        | some g =>
          have hgl := gapN_len hg
          rw [List.length_drop, bytesOf_length] at hgl
          rw [hg] at HQ' CK
          simp only [pos] at CK
          match g, hgl with
          | g + 1, hgl =>
            simp only at HQ'
            rw [List.drop_drop] at HQ'
            have t1 : decide ((at_ : Int) < ((at_ + (g + 1) : Nat) : Int)) = true := decide_eq_true (by omega)
            have t1' : ((at_ : Int) < ((at_ + (g + 1) : Nat) : Int)) = True := eq_true (by omega)
            have HQ2 := Aside0.mk HQ'
            have HG := Aside0.mk hgl
            obtain ⟨nx, hnx⟩ : ∃ n, n = at_ + (g + 1) := ⟨_, rfl⟩
            rw [← hnx] at CK t1 t1' HQ2
            have HNX := Aside0.mk hnx
            clear HQ' HQ hg CT hne hgl hnx
            go_wp2_with (go_at_call 14; (with_reducible refine (CK.out _).mono ?_); rintro e w1 ⟨rfl, hD1⟩; have HB1 := Aside0.mk (HB.out.trans (hD1.below.mono HB.out.size)); have HO1 := Aside0.mk (Kd.R_below HO.out hD1.below); clear hD1)
            go_roundg k2
            case measure => omega
            case rel => exact ⟨nx, out, A', c', rfl, rfl, by have := HG.out; have := HNX.out; omega, by have := HNX.out; omega, h3, HQ2, ⟨HO1.out⟩, HB1⟩
          | 0, hgl =>
            simp only at HQ'
            have t1 : decide ((at_ : Int) < (at_ : Int)) = false := decide_eq_false (by omega)
            have t2 : decide ((at_ : Int) < 0) = false := decide_eq_false (by omega)
            rw [Nat.add_zero] at CK
            cases ht : tokN ((bytesOf s).drop at_) with
            | none =>
              rw [ht] at HQ' CT
              simp only [tokV] at CT
              have HQ2 := Aside0.mk HQ'
              clear HQ' HQ hg hne hgl ht
              go_wp2_with (first
      | (go_at_call 14; (with_reducible refine (CK.out _).mono ?_); rintro e w1 ⟨rfl, hD1⟩; have HB1 := Aside0.mk (HB.out.trans (hD1.below.mono HB.out.size)); have HO1 := Aside0.mk (Kd.R_below HO.out hD1.below); clear hD1)
      | (go_at_call 15; (with_reducible refine (CT.out _).mono ?_); rintro e w2 ⟨rfl, hB2⟩; have HB2 := Aside0.mk (HB1.out.trans (hB2.mono HB1.out.size)); have HO2 := Aside0.mk (Kd.R_below HO1.out hB2); clear hB2))
              go_ret2
              rw [← HQ2.out]
              refine ⟨_, rfl, ?_, ?_, ?_, ?_⟩
              · exact cell_new _ _ _ _ _ (by first | rfl | simp)
              · exact cell_new _ _ _ _ _ (by first | rfl | simp)
              · exact Nat.le_trans (below_size (by repeat (first | exact HB2.out | apply below_alloc | apply pw_below_drewN | apply below_drew))) (by first | exact Nat.le_refl _ | simp)
              · exact (below_alloc (by repeat (first | exact HB2.out | apply below_alloc | apply pw_below_drewN | apply below_drew)) _)

            | some q =>
              obtain ⟨kd, t, n⟩ := q
              have htl := tokN_len ht
              rw [List.length_drop, bytesOf_length] at htl
              rw [ht] at HQ' CT
              simp only [tokV] at CT
              simp only at HQ'
              obtain ⟨nx, hnx⟩ : ∃ n', n' = at_ + n := ⟨_, rfl⟩
              rw [← hnx] at CT
              have t3 : decide ((nx : Int) < 0) = false := decide_eq_false (by omega)
              by_cases h4 : out.length = 4096
              · rw [if_pos h4] at HQ'
                have t4 : ((out.length : Int) == 4096) = true := by rw [beq_iff_eq]; omega
                have HQ2 := Aside0.mk HQ'
                clear HQ' HQ hg hne hgl ht htl hnx
                go_wp2_with (first
      | (go_at_call 14; (with_reducible refine (CK.out _).mono ?_); rintro e w1 ⟨rfl, hD1⟩; have HB1 := Aside0.mk (HB.out.trans (hD1.below.mono HB.out.size)); have HO1 := Aside0.mk (Kd.R_below HO.out hD1.below); clear hD1)
      | (go_at_call 15; (with_reducible refine (CT.out _).mono ?_); rintro e w2 ⟨rfl, hB2⟩; have HB2 := Aside0.mk (HB1.out.trans (hB2.mono HB1.out.size)); have HO2 := Aside0.mk (Kd.R_below HO1.out hB2); clear hB2))
                go_ret2
                rw [← HQ2.out]
                refine ⟨_, rfl, ?_, ?_, ?_, ?_⟩
                · exact cell_new _ _ _ _ _ (by first | rfl | simp)
                · exact cell_new _ _ _ _ _ (by first | rfl | simp)
                · exact Nat.le_trans (below_size (by repeat (first | exact HB2.out | apply below_alloc | apply pw_below_drewN | apply below_drew))) (by first | exact Nat.le_refl _ | simp)
                · exact (below_alloc (by repeat (first | exact HB2.out | apply below_alloc | apply pw_below_drewN | apply below_drew)) _)

              · rw [if_neg h4, List.drop_drop, ← hnx] at HQ'
                have t4 : ((out.length : Int) == 4096) = false := by rw [beq_eq_false_iff_ne]; omega
                have HQ2 := Aside0.mk HQ'
                have HTL := Aside0.mk (And.intro htl hnx)
                obtain ⟨tx, htx⟩ : ∃ x, x = strOfNums t := ⟨_, rfl⟩
                rw [← htx] at CT HQ2
                have H34 := Aside0.mk (show out.length + 1 ≤ 4096 by omega)
                clear HQ' HQ hg hne hgl ht htl hnx htx h4
                go_wp2_with (first
                  | (go_at_call 14; (with_reducible refine (CK.out _).mono ?_); rintro e w1 ⟨rfl, hD1⟩; have HB1 := Aside0.mk (HB.out.trans (hD1.below.mono HB.out.size)); have HO1 := Aside0.mk (Kd.R_below HO.out hD1.below); clear hD1)
                  | (go_at_call 15; (with_reducible refine (CT.out _).mono ?_); rintro e w2 ⟨rfl, hB2⟩; have HB2 := Aside0.mk (HB1.out.trans (hB2.mono HB1.out.size)); have HO2 := Aside0.mk (Kd.R_below HO1.out hB2); clear hB2)
                  | ((with_reducible refine gate_builtin (b := .append) (xs := #[.tmp 50, .tmp 52]) rfl ?_); at_builtin; refine Kd.R_append k36 (w0 := W) W.heap.size rfl (.tmp 50) (.tmp 52) 23 36 (.agg #[.int .i64 0, .int .i64 0, .string ⟨#[]⟩]) 32 rfl Tryd.underlying23 info36 rfl (by decide) (by omega) (.slice A' out.length c') out ⟨kd, (at_ : Int), tx⟩ [.int .i64 kd, .int .i64 (at_ : Int), .string tx] (fun _ => True) (fun _ => False) rfl (by first | (go_simp; done) | (go_simp; rfl)) ?aP ?aK ?aF ?aO ?aB ?aS ?aL ?_; (case aP => exact k36_mkM _ _ _ ⟨kd, (at_ : Int), tx⟩); (case aK => exact (fun k hk => hk.elim)); (case aF => exact (fun _ _ => trivial)); (case aO => exact (by (with_reducible repeat (first | apply Kd.R_alloc | apply Kd.R_drewN | apply Kd.R_drew)); exact HO2.out)); (case aB => exact (by repeat (first | exact HB2.out | apply below_alloc | apply pw_below_drewN | apply below_drew))); (case aS => exact Nat.le_trans (below_size (by repeat (first | exact HB2.out | apply below_alloc | apply pw_below_drewN | apply below_drew))) (by first | exact Nat.le_refl _ | simp)); (case aL => omega); intro v53 w7 ho hb hg hat; have HO7 := Aside0.mk ho; have HB7 := Aside0.mk hb; clear ho hb hg hat))
                go_roundg k2
                case measure => omega
                case rel =>
                  obtain ⟨A7, c7, rfl⟩ := Kd.R_slice HO7.out
                  exact ⟨nx, out ++ [⟨kd, (at_ : Int), tx⟩], A7, c7, rfl, rfl, by have := HTL.out; omega, by have := HTL.out; omega, by simp only [List.length_append, List.length_cons, List.length_nil]; exact H34.out, HQ2, HO7, HB7⟩
      · have hz : (bytesOf s).drop at_ = [] := drop_end s at_ (by omega)
        rw [if_pos hz] at HQ'
        have l1 : ((at_ : Int) < (s.size : Int)) = False := eq_false (by omega)
        have HQ2 := Aside0.mk HQ'
        clear HQ' HQ hz
        go_wp2_with fail
        go_ret2
        rw [← HQ2.out]
        exact ⟨A', c', rfl, HO.out, HB.out⟩
end Go.Proofs.YtaidpcmndmjceaaDoor.Lx
