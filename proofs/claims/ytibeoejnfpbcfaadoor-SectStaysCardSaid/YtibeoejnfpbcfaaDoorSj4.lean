/- The laws SectJoins, SectMore, SectBack, walked. -/
import Derived.Test.YtibeoejnfpbcfaaDoorSj2
import Derived.BigQuiet
namespace Go.Proofs.YtibeoejnfpbcfaaDoor.Sx
open Go.RowKit Go.Proofs.YtibeoejnfpbcfaaDoorW.PrintWords Go.Proofs.YtibeoejnfpbcfaaDoorW.PrintLast Go.Proofs.YtibeoejnfpbcfaaDoorW.PrintMore Go.Proofs.YtibeoejnfpbcfaaDoor.RSectSplits Go.Proofs.YtibeoejnfpbcfaaDoor.Leb Go.Proofs.YtibeoejnfpbcfaaDoor.Man
set_option linter.unusedVariables false
set_option linter.unusedSimpArgs false
attribute [local go_sem] err_eql err_neq err_nil_eql err_nil_neq
theorem joins_pos {l : List S34} {p : List Int} (h : joins l = some p) : 0 < p.length := by
  unfold joins at h
  split at h
  · cases h
  · obtain ⟨t, ht⟩ := jn_prefix l 0 magic p h
    rw [ht]; simp [magic]
theorem jn_R (l : List S34) : jnR (decide ((l.length : Int) ≤ 128)) (jn l 0 magic) = match joins l with | none => ((jnR (decide ((l.length : Int) ≤ 128)) (jn l 0 magic)).1, false) | some p => (p, true) := by
  unfold joins
  by_cases h : 128 < l.length
  · rw [if_pos h, decide_eq_false (by omega)]
    cases jn l 0 magic <;> rfl
  · rw [if_neg h, decide_eq_true (by omega)]
    cases jn l 0 magic <;> rfl
/-- What Join tells, by what 'joins' says. -/
def JRes (W : World) (r : Option (List Int)) (e : Ending) (w' : World) : Prop :=
  match r with
  | none => ∃ A c, e = .returned (.tuple #[.slice A 0 c, .iface 41 (.int .i64 1)]) ∧ Below W.heap.size W w'
  | some p => ∃ A c, e = .returned (.tuple #[.slice A p.length c, .nilIface]) ∧ p.length ≤ c ∧ Mk.Out w' W.heap.size (.slice A p.length c) p ∧ Below W.heap.size W w'
theorem join_calls (W : World) (A : Option Addr) (c : Nat) (l : List S34) (h : k34.C W A l.length l) (hc : l.length ≤ c) (h300 : l.length ≤ 300) (hs : ∀ s ∈ l, s.f2.length ≤ 10000) :
    Calls Tryd.prog 14 #[.slice A l.length c] W fun e w' => JRes W (joins l) e w' := by
  refine (sect_Join.calls 400 A c l _ _ W h hc (join_f l h300 hs)).mono ?_
  rintro e w' ⟨v, rfl, hR, hB⟩
  cases hj : joins l with
  | none =>
    rw [hj] at hR
    obtain ⟨A', c', rfl⟩ := Mk.R_slice hR
    exact ⟨A', c', rfl, hB⟩
  | some p =>
    rw [hj] at hR
    have ho := Mk.out_of hR (joins_pos hj)
    obtain ⟨A', c', he, hle, hC⟩ := ho.reads
    have he' : v = .slice A' p.length c' := he
    subst he'
    exact ⟨A', c', rfl, hle, ho, hB⟩
def JRef (W : World) (r : Option (List Int)) (e : Ending) (w' : World) : Prop :=
  match r with
  | none => ∃ v, e = .returned (.tuple #[v, .bool false]) ∧ Below W.heap.size W w'
  | some p => ∃ A c, e = .returned (.tuple #[.slice A p.length c, .bool true]) ∧ p.length ≤ c ∧ U8.C w' A p.length p ∧ Below W.heap.size W w'
theorem rjoin_calls (W : World) (A : Option Addr) (c : Nat) (l : List S34) (h : k34.C W A l.length l) (hc : l.length ≤ c) (h300 : l.length ≤ 300) (hs : ∀ s ∈ l, s.f2.length ≤ 10000) :
    Calls Tryd.prog 15 #[.slice A l.length c] W fun e w' => JRef W (joins l) e w' := by
  have hf := rjoin_f l h300 hs
  rw [jn_R l] at hf
  cases hj : joins l with
  | none =>
    rw [hj] at hf
    refine (grommetref07_Join.calls 1600 A c l _ _ W h hc hf).mono ?_
    rintro e w' ⟨v, rfl, hR, hB⟩
    exact ⟨v, rfl, hB⟩
  | some p =>
    rw [hj] at hf
    refine (grommetref07_Join.calls 1600 A c l _ _ W h hc hf).mono ?_
    rintro e w' ⟨v, rfl, hR, hB⟩
    obtain ⟨A', c', rfl, hle, hC⟩ := Kd.R_reads hR
    exact ⟨A', c', rfl, hle, hC, hB⟩
set_option maxRecDepth 100000 in
set_option maxHeartbeats 8000000 in
theorem joins_law (W : World) (hG : GL W) (A : Option Addr) (c : Nat) (l : List S34) (hA : k34.C W A l.length l) (hc : l.length ≤ c) (hm : l.length ≤ 9223372036854775806) :
    Calls Tryd.prog 4 #[.slice A l.length c] W fun e w' => e = .returned (.bool true) ∧ Below W.heap.size W w' := by
  obtain ⟨r, hr1, hr2⟩ := small_f l hm
  have HG := Aside0.mk hG
  have CS := Aside0.mk (show ∀ W5 : World, Below W.heap.size W W5 → Calls Tryd.prog 13 #[.slice A l.length c] W5 fun e w' => e = .returned (.bool r) ∧ Drawn0 W5 w' from
    fun W5 h5 => grommetlaw07_small.calls _ A c l r W5 (Kd.C_below hA h5) hc hr1)
  cases r with
  | false =>
    clear hG hA hr1 hr2
    go_enter Tryd.func4, Tryd.ntmps4
    go_wp2_with (first
      | (go_at_call 8; (refine (grommetlaw07_up.calls true _ HG.out rfl).mono ?_); rintro e w1 ⟨rfl, hB1⟩; have HB1 := Aside0.mk hB1; clear hB1)
      | (go_at_call 13; (with_reducible refine (CS.out _ HB1.out).mono ?_); rintro e w2 ⟨rfl, ⟨nd, rfl⟩⟩; have HB2 := Aside0.mk (pw_below_drewN HB1.out nd)))
    go_ret
    exact ⟨rfl, HB2.out⟩
  | true =>
    obtain ⟨h300, hs⟩ := hr2 rfl
    have CJ := Aside0.mk (show ∀ W5 : World, Below W.heap.size W W5 → Calls Tryd.prog 14 #[.slice A l.length c] W5 fun e w' => JRes W5 (joins l) e w' from fun W5 h5 => join_calls W5 A c l (Kd.C_below hA h5) hc h300 hs)
    have CR := Aside0.mk (show ∀ W5 : World, Below W.heap.size W W5 → Calls Tryd.prog 15 #[.slice A l.length c] W5 fun e w' => JRef W5 (joins l) e w' from fun W5 h5 => rjoin_calls W5 A c l (Kd.C_below hA h5) hc h300 hs)
    clear hG hA hr1 hr2 hs h300
    cases hj : joins l with
    | none =>
      rw [hj] at CJ CR
      clear hj
      go_enter Tryd.func4, Tryd.ntmps4
      go_wp2_with (first
      | (go_at_call 8; (refine (grommetlaw07_up.calls true _ HG.out rfl).mono ?_); rintro e w1 ⟨rfl, hB1⟩; have HB1 := Aside0.mk hB1; clear hB1)
      | (go_at_call 13; (with_reducible refine (CS.out _ HB1.out).mono ?_); rintro e w2 ⟨rfl, ⟨nd, rfl⟩⟩; have HB2 := Aside0.mk (pw_below_drewN HB1.out nd))
      | (go_at_call 14; (with_reducible refine (CJ.out _ HB2.out).mono ?_); rintro e w3 ⟨A3, c3, rfl, hB3⟩; have HB3 := Aside0.mk (HB2.out.trans (hB3.mono HB2.out.size)); clear hB3)
      | (go_at_call 15; (with_reducible refine (CR.out _ HB3.out).mono ?_); rintro e w4 ⟨v4, rfl, hB4⟩; have HB4 := Aside0.mk (HB3.out.trans (hB4.mono HB3.out.size)); clear hB4))
      go_ret
      exact ⟨rfl, HB4.out⟩
    | some p =>
      rw [hj] at CJ CR
      clear hj
      go_enter Tryd.func4, Tryd.ntmps4
      go_upto_region 7 with (first
      | (go_at_call 8; (refine (grommetlaw07_up.calls true _ HG.out rfl).mono ?_); rintro e w1 ⟨rfl, hB1⟩; have HB1 := Aside0.mk hB1; clear hB1)
      | (go_at_call 13; (with_reducible refine (CS.out _ HB1.out).mono ?_); rintro e w2 ⟨rfl, ⟨nd, rfl⟩⟩; have HB2 := Aside0.mk (pw_below_drewN HB1.out nd))
      | (go_at_call 14; (with_reducible refine (CJ.out _ HB2.out).mono ?_); rintro e w3 ⟨A3, c3, rfl, hle3, hO3, hB3⟩; have HB3 := Aside0.mk (HB2.out.trans (hB3.mono HB2.out.size)); have HO3 := Aside0.mk hO3; clear hB3 hO3 hle3)
      | (go_at_call 15; (with_reducible refine (CR.out _ HB3.out).mono ?_); rintro e w4 ⟨A4, c4, rfl, hle4, hC4, hB4⟩; have HB34 := Aside0.mk hB4; have HB4 := Aside0.mk (HB3.out.trans (hB4.mono HB3.out.size)); have HC4 := Aside0.mk hC4; clear hB4 hC4 hle4))
      obtain ⟨A', c', he, hle', hC3⟩ := HO3.out.reads
      injection he with he1 he2 he3
      subst he1
      have j1 := str_at (c := c3) (Kd.C_below hC3 HB34.out)
      have j2 := str_at (c := c4) HC4.out
      clear he2 he3 hle' hC3 HO3 HC4
      go_wp2_with fail
      go_ret
      exact ⟨rfl, HB4.out⟩
end Go.Proofs.YtibeoejnfpbcfaaDoor.Sx
