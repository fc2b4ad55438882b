/- The law SectBack, walked. -/
import Derived.Test.YtibeoejnfpbcfaaDoorSj4
namespace Go.Proofs.YtibeoejnfpbcfaaDoor.Sx
open Go.RowKit Go.Proofs.YtibeoejnfpbcfaaDoorW.PrintWords Go.Proofs.YtibeoejnfpbcfaaDoorW.PrintLast Go.Proofs.YtibeoejnfpbcfaaDoorW.PrintMore Go.Proofs.YtibeoejnfpbcfaaDoor.RSectSplits Go.Proofs.YtibeoejnfpbcfaaDoor.Leb Go.Proofs.YtibeoejnfpbcfaaDoor.Man
set_option linter.unusedVariables false
set_option linter.unusedSimpArgs false
attribute [local go_sem] err_eql err_neq err_nil_eql err_nil_neq
def total : List S34 → Nat
  | [] => 0
  | s :: r => s.f2.length + total r
theorem small_tot (l : List S34) (hl : l.length ≤ 300) (hs : ∀ s ∈ l, s.f2.length ≤ 10000) : ∀ (d j k n : Nat), j + d = l.length → d < k → n ≤ 10000 * j → grommetlaw07_small.l0 k l (n : Int) (j : Int) = some (decide (n + total (l.drop j) ≤ 10000))
  | 0, j, k, n, hj, hk, hn => by
    obtain ⟨k, rfl⟩ : ∃ m, k = m + 1 := ⟨k - 1, by omega⟩
    obtain rfl : j = l.length := by omega
    rw [grommetlaw07_small.l0, if_neg (by omega), if_pos (by omega), List.drop_length]
    exact congrArg some (decide_eq_decide.2 (by show (n : Int) ≤ 10000 ↔ n + 0 ≤ 10000; omega))
  | d + 1, j, k, n, hj, hk, hn => by
    obtain ⟨k, rfl⟩ : ∃ m, k = m + 1 := ⟨k - 1, by omega⟩
    have hlt : j < l.length := by omega
    have h10 := hs _ (rd_mem34 l j hlt)
    rw [grommetlaw07_small.l0, if_pos (by omega), if_pos (by omega), if_neg (by omega)]
    rw [show wrap64 ((j : Int) + 1) = ((j + 1 : Nat) : Int) by unfold wrap64; omega]
    rw [show wrap64 ((n : Int) + ((rd_T34 l (j : Int)).f2.length : Int)) = ((n + (rd_T34 l (j : Int)).f2.length : Nat) : Int) by unfold wrap64; omega]
    rw [small_tot l hl hs d (j + 1) k _ (by omega) (by omega) (by omega), rd_drop34 l j hlt]
    exact congrArg some (decide_eq_decide.2 (by show n + (rd_T34 l (j : Int)).f2.length + total (l.drop (j + 1)) ≤ 10000 ↔ n + ((rd_T34 l (j : Int)).f2.length + total (l.drop (j + 1))) ≤ 10000; omega))
theorem small_f2 (l : List S34) (hl : l.length ≤ 9223372036854775806) : ∃ r, grommetlaw07_small.f (l.length + 1) l = some r ∧ (r = true → l.length ≤ 300 ∧ (∀ s ∈ l, s.f2.length ≤ 10000) ∧ total l ≤ 10000) := by
  obtain ⟨r, h1, h2⟩ := small_f l hl
  refine ⟨r, h1, fun hr => ?_⟩
  obtain ⟨h3, h4⟩ := h2 hr
  refine ⟨h3, h4, ?_⟩
  have k := small_tot l h3 h4 l.length 0 (l.length + 1) 0 (by omega) (by omega) (by omega)
  unfold grommetlaw07_small.f at h1
  have e0 : ((0 : Nat) : Int) = 0 := rfl
  rw [e0] at k
  rw [k, hr] at h1
  injection h1 with h1
  have := of_decide_eq_true h1
  simpa using this
theorem jn_tot : ∀ (l : List S34) (last : Int) (out p : List Int), (∀ s ∈ l, s.f2.length < 4294967296) → jn l last out = some p → p.length ≤ out.length + 6 * l.length + total l
  | [], last, out, p, hs, h => by rw [jn] at h; injection h with h; rw [h]; simp [total]
  | s :: r, last, out, p, hs, h => by
    rw [jn] at h
    split at h
    · cases h
    · have k := jn_tot r _ _ p (fun x hx => hs x (List.mem_cons_of_mem _ hx)) h
      have e5 := enc5 (hs s (List.mem_cons_self ..))
      rw [List.length_cons, total]
      simp only [List.length_append, List.length_cons] at k
      omega
theorem joins_small {l : List S34} {p : List Int} (h : joins l = some p) (hs : ∀ s ∈ l, s.f2.length ≤ 10000) (ht : total l ≤ 10000) : p.length ≤ 11000 := by
  unfold joins at h
  split at h
  · cases h
  · have k := jn_tot l 0 magic p (fun s h => by have := hs s h; omega) h
    have e : magic.length = 8 := rfl
    omega
theorem joins_by {l : List S34} {p : List Int} (h : joins l = some p) (hb : ∀ s ∈ l, Bytes s.f2) : Bytes p := by
  unfold joins at h
  split at h
  · cases h
  · exact jn_bytes l 0 magic p hb magic_bytes h
set_option maxRecDepth 100000 in
set_option maxHeartbeats 8000000 in
theorem back_law (W : World) (hG : GL W) (A : Option Addr) (c : Nat) (l : List S34) (hA : k34.C W A l.length l) (hc : l.length ≤ c) (hm : l.length ≤ 9223372036854775806) (hbs : ∀ s ∈ l, Bytes s.f2) (B : Option Addr) (d : Nat) (b : List Int) (hB : U8.C W B b.length b) (hd : b.length ≤ d) (bb : Bytes b) :
    Calls Tryd.prog 5 #[.slice A l.length c, .slice B b.length d] W fun e w' => e = .returned (.bool true) ∧ Below W.heap.size W w' := by
  obtain ⟨r, hr1, hr2⟩ := small_f2 l hm
  have HG := Aside0.mk hG
  have CS := Aside0.mk (show ∀ W5 : World, Below W.heap.size W W5 → Calls Tryd.prog 13 #[.slice A l.length c] W5 fun e w' => e = .returned (.bool r) ∧ Drawn0 W5 w' from
    fun W5 h5 => grommetlaw07_small.calls _ A c l r W5 (Kd.C_below hA h5) hc hr1)
  cases r with
  | false =>
    clear hG hA hr1 hr2 hB bb hbs
    go_enter Tryd.func5, Tryd.ntmps5
    go_wp2_with (first
      | (go_at_call 8; (refine (grommetlaw07_up.calls true _ HG.out rfl).mono ?_); rintro e w1 ⟨rfl, hB1⟩; have HB1 := Aside0.mk hB1; clear hB1)
      | (go_at_call 13; (with_reducible refine (CS.out _ HB1.out).mono ?_); rintro e w2 ⟨rfl, ⟨nd, rfl⟩⟩; have HB2 := Aside0.mk (pw_below_drewN HB1.out nd)))
    go_ret
    exact ⟨rfl, HB2.out⟩
  | true =>
    by_cases lb : b.length ≤ 3000
    · obtain ⟨h300, hs, ht⟩ := hr2 rfl
      have g1 : decide ((3000 : Int) < (b.length : Int)) = false := decide_eq_false (by omega)
      have g1' : ((3000 : Int) < (b.length : Int)) = False := eq_false (by omega)
      have HAl := Aside0.mk hA
      have HBb := Aside0.mk hB
      have CJ := Aside0.mk (show ∀ W5 : World, Below W.heap.size W W5 → Calls Tryd.prog 14 #[.slice A l.length c] W5 fun e w' => JRes W5 (joins l) e w' from fun W5 h5 => join_calls W5 A c l (Kd.C_below hA h5) hc h300 hs)
      have CB := Aside0.mk (show ∀ W5 : World, Below W.heap.size W W5 → Calls Tryd.prog 9 #[.slice B b.length d] W5 fun e w' => Res W5 (split b) e w' from fun W5 h5 => split_calls W5 B d b (Kd.C_below hB h5) hd bb (by omega))
      -- behind the first half: at region 10
      have second : ∀ (k : Nat), True := fun _ => trivial
      cases hd0 : split b with
      | error q =>
        obtain ⟨bad, i⟩ := q
        rw [hd0] at CB
        cases hj : joins l with
        | none =>
          rw [hj] at CJ
          clear hG hA hB bb hbs hr1 hr2 hs ht hj hd0 h300
          go_enter Tryd.func5, Tryd.ntmps5
          go_upto_region 10 with (first
      | (go_at_call 8; (refine (grommetlaw07_up.calls true _ HG.out rfl).mono ?_); rintro e w1 ⟨rfl, hB1⟩; have HB1 := Aside0.mk hB1; clear hB1)
      | (go_at_call 13; (with_reducible refine (CS.out _ HB1.out).mono ?_); rintro e w2 ⟨rfl, ⟨nd, rfl⟩⟩; have HB2 := Aside0.mk (pw_below_drewN HB1.out nd))
      | (go_at_call 14; (with_reducible refine (CJ.out _ HB2.out).mono ?_); rintro e w3 ⟨A3, c3, rfl, hB3⟩; have HB3 := Aside0.mk (HB2.out.trans (hB3.mono HB2.out.size)); clear hB3))
          go_wp2_with (go_at_call 9; (with_reducible refine (CB.out _ HB3.out).mono ?_); rintro e w6 ⟨p6, rfl, p60, p61, p62, hB6⟩; have HB6 := Aside0.mk (HB3.out.trans (hB6.mono HB3.out.size)); clear p60 p61 p62 hB6)
          go_ret
          exact ⟨rfl, HB6.out⟩
        | some p =>
          rw [hj] at CJ
          obtain ⟨k, hk1, hk2⟩ := split_joins hj (fun s h => by have := hs s h; omega)
          have hpl := joins_small hj hs ht
          have hpb := joins_by hj hbs
          have CP := Aside0.mk (show ∀ (W5 : World) (A5 : Option Addr) (c5 : Nat), U8.C W5 A5 p.length p → p.length ≤ c5 → Calls Tryd.prog 9 #[.slice A5 p.length c5] W5 fun e w' => Res W5 (.ok k) e w' from
            fun W5 A5 c5 h5 hc5 => by have z := split_calls W5 A5 c5 p h5 hc5 hpb (by omega); rw [hk1] at z; exact z)
          have CK := Aside0.mk (show ∀ (W5 : World) (A5 : Option Addr) (c5 : Nat), k34.C W5 A5 k.length k → k.length ≤ c5 → Below W.heap.size W W5 → Calls Tryd.prog 12 #[.slice A5 k.length c5, .slice A l.length c] W5 fun e w' => e = .returned (.bool true) ∧ Drawn0 W5 w' from
            fun W5 A5 c5 h5 hc5 h6 => grommetref07_Same.calls _ A5 c5 k A c l true W5 h5 hc5 (Kd.C_below HAl.out h6) hc (same_keys k l hk2 (by rw [keys_len hk2]; omega)))
          clear hpl hpb hk1 hk2
          clear hG hA hB bb hbs hr1 hr2 hs ht hj hd0 h300
          go_enter Tryd.func5, Tryd.ntmps5
          go_upto_region 7 with (first
      | (go_at_call 8; (refine (grommetlaw07_up.calls true _ HG.out rfl).mono ?_); rintro e w1 ⟨rfl, hB1⟩; have HB1 := Aside0.mk hB1; clear hB1)
      | (go_at_call 13; (with_reducible refine (CS.out _ HB1.out).mono ?_); rintro e w2 ⟨rfl, ⟨nd, rfl⟩⟩; have HB2 := Aside0.mk (pw_below_drewN HB1.out nd))
      | (go_at_call 14; (with_reducible refine (CJ.out _ HB2.out).mono ?_); rintro e w3 ⟨A3, c3, rfl, hle3, hO3, hB3⟩; have HB3 := Aside0.mk (HB2.out.trans (hB3.mono HB2.out.size)); obtain ⟨A3_, c3_, he3, hl3, hC3⟩ := hO3.reads; injection he3 with he3a he3b he3c; subst he3a; have HC3 := Aside0.mk (And.intro hC3 hle3); clear hB3 hO3 hle3 he3b he3c hl3 hC3))
          go_upto_region 8 with (go_at_call 9; (with_reducible refine (CP.out _ _ _ HC3.out.1 HC3.out.2).mono ?_); rintro e w4 ⟨A4, c4, rfl, hR4, hB4⟩; have HR4 := Aside0.mk (Kd.R_reads' hR4); have HB4 := Aside0.mk (HB3.out.trans (hB4.mono HB3.out.size)); clear hR4 hB4)
          go_upto_region 10 with (go_at_call 12; (with_reducible refine (CK.out _ _ _ HR4.out.2.2 HR4.out.2.1 HB4.out).mono ?_); rintro e w5 ⟨rfl, ⟨nd5, rfl⟩⟩; have HB5 := Aside0.mk (pw_below_drewN HB4.out nd5))
          go_wp2_with (go_at_call 9; (with_reducible refine (CB.out _ HB5.out).mono ?_); rintro e w6 ⟨p6, rfl, p60, p61, p62, hB6⟩; have HB6 := Aside0.mk (HB5.out.trans (hB6.mono HB5.out.size)); clear p60 p61 p62 hB6)
          go_ret
          exact ⟨rfl, HB6.out⟩
      | ok k2 =>
        rw [hd0] at CB
        have k2l := split_len hd0
        obtain ⟨q, hq1, hq2, hq3⟩ := joins_split bb hd0
        obtain ⟨u, hu1, hu2⟩ := split_joins hq1 (fun s hs => by have := (hq3 s hs).1; omega)
        have hqb := joins_by hq1 (fun s hs => (hq3 s hs).2)
        have CJ2 := Aside0.mk (show ∀ (W5 : World) (A5 : Option Addr) (c5 : Nat), k34.C W5 A5 k2.length k2 → k2.length ≤ c5 → Calls Tryd.prog 14 #[.slice A5 k2.length c5] W5 fun e w' => JRes W5 (some q) e w' from
          fun W5 A5 c5 h5 hc5 => by have z := join_calls W5 A5 c5 k2 h5 hc5 (by omega) (fun s hs => by have := (hq3 s hs).1; omega); rw [hq1] at z; exact z)
        have CQ := Aside0.mk (show ∀ (W5 : World) (A5 : Option Addr) (c5 : Nat), U8.C W5 A5 q.length q → q.length ≤ c5 → Calls Tryd.prog 9 #[.slice A5 q.length c5] W5 fun e w' => Res W5 (.ok u) e w' from
          fun W5 A5 c5 h5 hc5 => by have z := split_calls W5 A5 c5 q h5 hc5 hqb (by omega); rw [hu1] at z; exact z)
        have CU := Aside0.mk (show ∀ (W5 : World) (A5 : Option Addr) (c5 : Nat) (A6 : Option Addr) (c6 : Nat), k34.C W5 A5 u.length u → u.length ≤ c5 → k34.C W5 A6 k2.length k2 → k2.length ≤ c6 → Calls Tryd.prog 12 #[.slice A5 u.length c5, .slice A6 k2.length c6] W5 fun e w' => e = .returned (.bool true) ∧ Drawn0 W5 w' from
          fun W5 A5 c5 A6 c6 h5 hc5 h6 hc6 => grommetref07_Same.calls _ A5 c5 u A6 c6 k2 true W5 h5 hc5 h6 hc6 (same_keys u k2 hu2 (by rw [keys_len hu2]; omega)))
        have gq : decide ((q.length : Int) ≤ (b.length : Int)) = true := decide_eq_true (by omega)
        have gq' : decide (q.length ≤ b.length) = true := decide_eq_true (by omega)
        have gq2 : ((q.length : Int) ≤ (b.length : Int)) = True := eq_true (by omega)
        cases hj : joins l with
        | none =>
          rw [hj] at CJ
          clear hG hA hB bb hbs hr1 hr2 hs ht hj hd0 h300 hq1 hq2 hq3 hu1 hu2 hqb k2l
          go_enter Tryd.func5, Tryd.ntmps5
          go_upto_region 10 with (first
      | (go_at_call 8; (refine (grommetlaw07_up.calls true _ HG.out rfl).mono ?_); rintro e w1 ⟨rfl, hB1⟩; have HB1 := Aside0.mk hB1; clear hB1)
      | (go_at_call 13; (with_reducible refine (CS.out _ HB1.out).mono ?_); rintro e w2 ⟨rfl, ⟨nd, rfl⟩⟩; have HB2 := Aside0.mk (pw_below_drewN HB1.out nd))
      | (go_at_call 14; (with_reducible refine (CJ.out _ HB2.out).mono ?_); rintro e w3 ⟨A3, c3, rfl, hB3⟩; have HB3 := Aside0.mk (HB2.out.trans (hB3.mono HB2.out.size)); clear hB3))
          go_upto_region 13 with (go_at_call 9; (with_reducible refine (CB.out _ HB3.out).mono ?_); rintro e w6 ⟨A6, c6, rfl, hR6, hB6⟩; have HR6 := Aside0.mk (Kd.R_reads' hR6); have HB6 := Aside0.mk (HB3.out.trans (hB6.mono HB3.out.size)); clear hR6 hB6)
          go_upto_region 14 with (go_at_call 14; (with_reducible refine (CJ2.out _ _ _ HR6.out.2.2 HR6.out.2.1).mono ?_); rintro e w7 ⟨A7, c7, rfl, hle7, hO7, hB7⟩; have HB7 := Aside0.mk (HB6.out.trans (hB7.mono HB6.out.size)); have HR7 := Aside0.mk (Kd.C_below HR6.out.2.2 hB7); obtain ⟨A7_, c7_, he7, hl7, hC7⟩ := hO7.reads; injection he7 with he7a he7b he7c; subst he7a; have HC7 := Aside0.mk (And.intro hC7 hle7); clear hB7 hO7 hle7 he7b he7c hl7 hC7)
          go_upto_region 15 with (go_at_call 9; (with_reducible refine (CQ.out _ _ _ HC7.out.1 HC7.out.2).mono ?_); rintro e w8 ⟨A8, c8, rfl, hR8, hB8⟩; have HR8 := Aside0.mk (Kd.R_reads' hR8); have HR9 := Aside0.mk (Kd.C_below HR7.out hB8); have HB8 := Aside0.mk (HB7.out.trans (hB8.mono HB7.out.size)); clear hR8 hB8)
          go_wp2_with (go_at_call 12; (with_reducible refine (CU.out _ _ _ _ _ HR8.out.2.2 HR8.out.2.1 HR9.out HR6.out.2.1).mono ?_); rintro e w9 ⟨rfl, ⟨nd9, rfl⟩⟩; have HB9 := Aside0.mk (pw_below_drewN HB8.out nd9))
          go_ret
          exact ⟨rfl, HB9.out⟩
        | some p =>
          rw [hj] at CJ
          obtain ⟨k, hk1, hk2⟩ := split_joins hj (fun s h => by have := hs s h; omega)
          have hpl := joins_small hj hs ht
          have hpb := joins_by hj hbs
          have CP := Aside0.mk (show ∀ (W5 : World) (A5 : Option Addr) (c5 : Nat), U8.C W5 A5 p.length p → p.length ≤ c5 → Calls Tryd.prog 9 #[.slice A5 p.length c5] W5 fun e w' => Res W5 (.ok k) e w' from
            fun W5 A5 c5 h5 hc5 => by have z := split_calls W5 A5 c5 p h5 hc5 hpb (by omega); rw [hk1] at z; exact z)
          have CK := Aside0.mk (show ∀ (W5 : World) (A5 : Option Addr) (c5 : Nat), k34.C W5 A5 k.length k → k.length ≤ c5 → Below W.heap.size W W5 → Calls Tryd.prog 12 #[.slice A5 k.length c5, .slice A l.length c] W5 fun e w' => e = .returned (.bool true) ∧ Drawn0 W5 w' from
            fun W5 A5 c5 h5 hc5 h6 => grommetref07_Same.calls _ A5 c5 k A c l true W5 h5 hc5 (Kd.C_below HAl.out h6) hc (same_keys k l hk2 (by rw [keys_len hk2]; omega)))
          clear hpl hpb hk1 hk2
          clear hG hA hB bb hbs hr1 hr2 hs ht hj hd0 h300 hq1 hq2 hq3 hu1 hu2 hqb k2l
          go_enter Tryd.func5, Tryd.ntmps5
          go_upto_region 7 with (first
      | (go_at_call 8; (refine (grommetlaw07_up.calls true _ HG.out rfl).mono ?_); rintro e w1 ⟨rfl, hB1⟩; have HB1 := Aside0.mk hB1; clear hB1)
      | (go_at_call 13; (with_reducible refine (CS.out _ HB1.out).mono ?_); rintro e w2 ⟨rfl, ⟨nd, rfl⟩⟩; have HB2 := Aside0.mk (pw_below_drewN HB1.out nd))
      | (go_at_call 14; (with_reducible refine (CJ.out _ HB2.out).mono ?_); rintro e w3 ⟨A3, c3, rfl, hle3, hO3, hB3⟩; have HB3 := Aside0.mk (HB2.out.trans (hB3.mono HB2.out.size)); obtain ⟨A3_, c3_, he3, hl3, hC3⟩ := hO3.reads; injection he3 with he3a he3b he3c; subst he3a; have HC3 := Aside0.mk (And.intro hC3 hle3); clear hB3 hO3 hle3 he3b he3c hl3 hC3))
          go_upto_region 8 with (go_at_call 9; (with_reducible refine (CP.out _ _ _ HC3.out.1 HC3.out.2).mono ?_); rintro e w4 ⟨A4, c4, rfl, hR4, hB4⟩; have HR4 := Aside0.mk (Kd.R_reads' hR4); have HB4 := Aside0.mk (HB3.out.trans (hB4.mono HB3.out.size)); clear hR4 hB4)
          go_upto_region 10 with (go_at_call 12; (with_reducible refine (CK.out _ _ _ HR4.out.2.2 HR4.out.2.1 HB4.out).mono ?_); rintro e w5 ⟨rfl, ⟨nd5, rfl⟩⟩; have HB5 := Aside0.mk (pw_below_drewN HB4.out nd5))
          go_upto_region 13 with (go_at_call 9; (with_reducible refine (CB.out _ HB5.out).mono ?_); rintro e w6 ⟨A6, c6, rfl, hR6, hB6⟩; have HR6 := Aside0.mk (Kd.R_reads' hR6); have HB6 := Aside0.mk (HB5.out.trans (hB6.mono HB5.out.size)); clear hR6 hB6)
          go_upto_region 14 with (go_at_call 14; (with_reducible refine (CJ2.out _ _ _ HR6.out.2.2 HR6.out.2.1).mono ?_); rintro e w7 ⟨A7, c7, rfl, hle7, hO7, hB7⟩; have HB7 := Aside0.mk (HB6.out.trans (hB7.mono HB6.out.size)); have HR7 := Aside0.mk (Kd.C_below HR6.out.2.2 hB7); obtain ⟨A7_, c7_, he7, hl7, hC7⟩ := hO7.reads; injection he7 with he7a he7b he7c; subst he7a; have HC7 := Aside0.mk (And.intro hC7 hle7); clear hB7 hO7 hle7 he7b he7c hl7 hC7)
          go_upto_region 15 with (go_at_call 9; (with_reducible refine (CQ.out _ _ _ HC7.out.1 HC7.out.2).mono ?_); rintro e w8 ⟨A8, c8, rfl, hR8, hB8⟩; have HR8 := Aside0.mk (Kd.R_reads' hR8); have HR9 := Aside0.mk (Kd.C_below HR7.out hB8); have HB8 := Aside0.mk (HB7.out.trans (hB8.mono HB7.out.size)); clear hR8 hB8)
          go_wp2_with (go_at_call 12; (with_reducible refine (CU.out _ _ _ _ _ HR8.out.2.2 HR8.out.2.1 HR9.out HR6.out.2.1).mono ?_); rintro e w9 ⟨rfl, ⟨nd9, rfl⟩⟩; have HB9 := Aside0.mk (pw_below_drewN HB8.out nd9))
          go_ret
          exact ⟨rfl, HB9.out⟩
    · have g1 : decide ((3000 : Int) < (b.length : Int)) = true := decide_eq_true (by omega)
      clear hG hA hr1 hr2 hB bb hbs lb
      go_enter Tryd.func5, Tryd.ntmps5
      go_wp2_with (first
      | (go_at_call 8; (refine (grommetlaw07_up.calls true _ HG.out rfl).mono ?_); rintro e w1 ⟨rfl, hB1⟩; have HB1 := Aside0.mk hB1; clear hB1)
      | (go_at_call 13; (with_reducible refine (CS.out _ HB1.out).mono ?_); rintro e w2 ⟨rfl, ⟨nd, rfl⟩⟩; have HB2 := Aside0.mk (pw_below_drewN HB1.out nd)))
      go_ret
      exact ⟨rfl, HB2.out⟩
end Go.Proofs.YtibeoejnfpbcfaaDoor.Sx
