/- ListStays, walked. -/
import Derived.Test.YtiicmihecdeebaaLt7
import Derived.Test.YtiicmihecdeebaaLt4
set_option linter.unusedVariables false
set_option linter.unusedSimpArgs false
namespace Go.Proofs.Ytiicmihecdeebaa.Lt
open Go.RowKit Go.Proofs.YtiicmihecdeebaaW.PrintWords Go.Proofs.YtiicmihecdeebaaW.PrintLast Go.Proofs.YtiicmihecdeebaaW.PrintMore Go.Proofs.Ytiicmihecdeebaa.RListFlats Go.Proofs.Ytiicmihecdeebaa.Man
/-- A token of a row of the call's own is written over. -/
theorem tok_set {w : World} {base : Nat} {ok : Nat → Prop} {g n cap : Nat} {xs : List S36} (h : k36.R 36 w base ok (.slice (some ⟨g, 0, none⟩) n cap) xs) (i : Int) (h0 : 0 ≤ i) (h1 : i < n) :
    ok g ∧ base ≤ g ∧ g < w.heap.size
    ∧ (∃ u0 u1 u2, w.cell? ⟨g, i.toNat * 3, none⟩ = some u0 ∧ w.cell? ⟨g, i.toNat * 3 + 1, none⟩ = some u1 ∧ w.cell? ⟨g, i.toNat * 3 + 2, none⟩ = some u2)
    ∧ (w.frozen? ⟨g, i.toNat * 3, none⟩ = false ∧ w.frozen? ⟨g, i.toNat * 3 + 1, none⟩ = false ∧ w.frozen? ⟨g, i.toNat * 3 + 2, none⟩ = false)
    ∧ ∀ x : S36, ∃ xs', xs'.length = xs.length ∧ k36.R 36 (((w.setCell ⟨g, i.toNat * 3, none⟩ (.int .i64 x.f0)).setCell ⟨g, i.toNat * 3 + 1, none⟩ (.int .i64 x.f1)).setCell ⟨g, i.toNat * 3 + 2, none⟩ (.string x.f2)) base ok (.slice (some ⟨g, 0, none⟩) n cap) xs' := by
  obtain ⟨cc, hcl, hM, hcells, hfz⟩ := Kd.R_elem h z36 i h0 h1
  have hcc := k36_openM hM
  refine ⟨h.1 g (by simp [Value.ownBlock]), Kd.R_base h g (by simp [Value.ownBlock]), Kd.R_lt h g (by simp [Value.ownBlock]), ?_, ⟨hfz 0, hfz 1, hfz 2⟩, fun x => ?_⟩
  · subst hcc
    exact ⟨_, _, _, hcells 0 _ rfl, hcells 1 _ rfl, hcells 2 _ rfl⟩
  · have hs := (Kd.R_seg (okp := fun _ => False) (x' := x) (seg := [.int .i64 x.f0, .int .i64 x.f1, .string x.f2]) (j := 0) h i h0 h1 hcl hcells (Nat.le_refl 3) (by
      have e : List.take 0 cc ++ [.int .i64 x.f0, .int .i64 x.f1, .string x.f2] ++ List.drop (0 + 3) cc = [.int .i64 x.f0, .int .i64 x.f1, .string x.f2] := by
        rw [List.drop_eq_nil_of_le (by rw [hcl]; exact Nat.le_refl 3)]; rfl
      exact (congrArg (k36.M w base (fun _ => False) x) e).mpr (k36_mkM _ _ _ _)) (fun _ hk => hk.elim)).1
    exact ⟨_, List.length_set, hs⟩
/-- Stores below the row's base. -/
theorem R_past3 {α : Type} {d : Kd α} {e : Nat} {w : World} {base : Nat} {ok : Nat → Prop} {v : Value} {xs : List α} (h : d.R e w base ok v xs) {g : Nat} (hg : ∀ k, ok k → k ≠ g) (a b c : Nat) (u0 u1 u2 : Value) :
    d.R e (((w.setCell ⟨g, a, none⟩ u0).setCell ⟨g, b, none⟩ u1).setCell ⟨g, c, none⟩ u2) base ok v xs :=
  Kd.R_far (Kd.R_far (Kd.R_far h (p := ⟨g, a, none⟩) hg u0) (p := ⟨g, b, none⟩) hg u1) (p := ⟨g, c, none⟩) hg u2
theorem below3 {B : Nat} {W w : World} (h : Below B W w) {g : Nat} (hg : B ≤ g) (a b c : Nat) (u0 u1 u2 : Value) : Below B W (((w.setCell ⟨g, a, none⟩ u0).setCell ⟨g, b, none⟩ u1).setCell ⟨g, c, none⟩ u2) :=
  ((h.setCell (p := ⟨g, a, none⟩) hg u0).setCell (p := ⟨g, b, none⟩) hg u1).setCell (p := ⟨g, c, none⟩) hg u2
set_option maxRecDepth 100000 in
set_option maxHeartbeats 4000000 in
theorem stays_walk (W : World) (A : Option Addr) (c : Nat) (l : List S36) (hA : k36.C W A l.length l) (hc : l.length ≤ c) :
    Calls Try.prog 6 #[.slice A l.length c] W fun e w' => e = .returned (.bool true) ∧ Below W.heap.size W w' := by
  have HA := Aside0.mk hA
  have HCc := Aside0.mk hc
  clear hA hc
  by_cases h1 : (4096 : Int) < (l.length : Int)
  · go_enter Try.func6, Try.ntmps6
    go_wp2_with (go_at_call 7; (refine (grommetlaw10_up.calls true _ rfl).mono ?_); rintro e w1 ⟨rfl, hB1⟩; have HB1 := Aside0.mk hB1; clear hB1)
    go_ret
    exact ⟨rfl, HB1.out⟩
  have L1 := Aside0.mk (show l.length ≤ 4096 by omega)
  have CP := Aside0.mk (fun (W5 : World) (A5 : Option Addr) (c5 : Nat) (h5 : k36.C W5 A5 l.length l) => parse_calls W5 A5 c5 l h5 (by have := L1.out; omega))
  obtain ⟨ns, hns⟩ : ∃ ns, ns = (prsO l).getD [] := ⟨_, rfl⟩
  have hcn : cnt ns ≤ 4096 := by
    cases hp : prsO l with
    | none => rw [hns, hp]; simp [cnt]
    | some n => rw [hns, hp]; have := (prsO_flat hp).2.1; have := L1.out; show cnt n ≤ 4096; omega
  have LN := Aside0.mk (And.intro hcn (Nat.le_trans (flat_len ns) (Nat.mul_le_mul_left 2 hcn)))
  have CF := Aside0.mk (fun (W5 : World) (A5 : Option Addr) (c5 : Nat) (h5 : k39.C W5 A5 ns.length ns) (h6 : ns.length ≤ c5) => list_Flat.calls (2 + 3 * cnt ns) A5 c5 ns (flat ns) W5 h5 h6 (flat_f (by have := LN.out.1; omega) (Nat.le_refl _)))
  have CR := Aside0.mk (fun (W5 : World) (A5 : Option Addr) (c5 : Nat) (h5 : k39.C W5 A5 ns.length ns) (h6 : ns.length ≤ c5) => grommetref10_Flat.calls (2 + 3 * cnt ns) A5 c5 ns (flat ns) W5 h5 h6 (rflat_f (by have := LN.out.1; omega) (Nat.le_refl _)))
  have CS := Aside0.mk (fun (W5 : World) (A5 : Option Addr) (c5 : Nat) (A6 : Option Addr) (c6 : Nat) (xs : List S36) (hx : xs.length ≤ 10000) (h5 : k36.C W5 A5 xs.length xs) (h6 : xs.length ≤ c5) (h7 : k36.C W5 A6 xs.length xs) (h8 : xs.length ≤ c6) => grommetlaw09_Same.calls (xs.length + 1) A5 c5 xs A6 c6 xs true true W5 h5 h6 h7 h8 (tsame_f (by omega) (Nat.le_refl _)))
  have HFl := Aside0.mk (show (flat ns).length ≤ 10000 by have := LN.out.2; omega)
  obtain ⟨ks, hks⟩ : ∃ ks, ks = flat ns := ⟨_, rfl⟩
  rw [← hks] at CF CR HFl
  clear hcn hks
  cases hp : prsO l with
  | none =>
    rw [hp] at CP hns
    obtain rfl : ns = [] := hns
    clear hp
    go_enter Try.func6, Try.ntmps6
    go_upto_region 4 with (go_at_call 7; (refine (grommetlaw10_up.calls true _ rfl).mono ?_); rintro e w1 ⟨rfl, hB1⟩; have HB1 := Aside0.mk hB1; clear hB1)
    go_upto_region 5 with ((with_reducible refine gate_builtin (b := .append) (xs := #[.tmp 18, .tmp 19]) rfl ?_); at_builtin; refine Kd.R_append_rows k36 (Rr := k36.K W) (w0 := w1) w1.heap.size rfl (.tmp 18) (.tmp 19) 22 36 (.agg #[(.int .i64 0), (.int .i64 0), (.string ⟨#[]⟩)]) 32 rfl Try.underlying22 info36 rfl (Nat.zero_lt_succ _) (by omega) (.slice (some ⟨w1.heap.size, 0, none⟩) 0 0) ([] : List S36) l _ _ _ (fun _ => True) (fun _ => False) rfl rfl ?aO ?aR ?aK (fun _ h => h.elim) (fun _ _ => trivial) ?aB ?aS ?aL ?_; (case aO => exact (R_none0 k36 w1 w1.heap.size (Nat.le_refl _) 36)); (case aR => exact (Kd.C_below HA.out (below_alloc HB1.out _))); (case aK => exact (fun x cs h => tok_M _ _ _ _ x cs h)); (case aB => exact (below_alloc (Below.refl _ _) _)); (case aS => exact (below_alloc (Below.refl w1.heap.size w1) _).size); (case aL => have := L1.out; (try simp only [List.length_nil]); omega); intro v4 w4 hR4 hB4 hg4 hat4; rw [List.nil_append] at hR4; obtain ⟨A4, c4, e4⟩ := Kd.R_slice hR4; subst e4; have HO4 := Aside0.mk (Kd.R_mono (Kd.R_bound hR4) (ok' := fun k => w1.heap.size ≤ k ∧ k < w4.heap.size) (fun k hk => ⟨hk.2.1, hk.2.2.1⟩)); have HB4 := Aside0.mk (HB1.out.trans (hB4.mono HB1.out.size)); have HS4 := Aside0.mk hB4.size; clear hR4 hB4 hg4 hat4)
    go_upto_region 6 with (go_at_call 8; (refine (CP.out _ _ _ (Kd.R_reads' HO4.out).2.2).mono ?_); rintro e w5 ⟨⟨t5, u5_, rfl⟩, hB5⟩; have HN5 := Aside0.mk (Kd.R_nil k39 39 w5 w4.heap.size (fun _ => True)); have HO5 := Aside0.mk (Kd.R_below HO4.out hB5); have HB5 := Aside0.mk (HB4.out.trans (hB5.mono HB4.out.size)); have HS5 := Aside0.mk hB5.size; clear hB5)
    go_upto_region 7 with (go_at_call 13; (refine (CR.out _ _ _ (Kd.R_reads' HN5.out).2.2 (cap_of HN5.out)).mono ?_); rintro e w6 ⟨v6, rfl, hR6, hB6⟩; obtain ⟨A6, c6, e6⟩ := Kd.R_slice hR6; subst e6; have HW6 := Aside0.mk hR6; have HO6 := Aside0.mk (Kd.R_below HO5.out hB6); have HN6 := Aside0.mk (Kd.R_mono (Kd.R_bound (Kd.R_below HN5.out hB6)) (ok' := fun k => w4.heap.size ≤ k) (fun k hk => hk.2.1)); have HB6 := Aside0.mk (HB5.out.trans (hB6.mono HB5.out.size)); have HS6 := Aside0.mk hB6.size; clear hB6 hR6)
    go_upto_region 9 with (go_at_call 11; (refine (CS.out _ _ _ _ _ l (by have := L1.out; omega) (Kd.R_reads' HO6.out).2.2 (cap_of HO6.out) (Kd.C_below HA.out HB6.out) HCc.out).mono ?_); rintro e w7 ⟨rfl, hD7⟩; have HB7 := Aside0.mk (HB6.out.trans (hD7.below.mono HB6.out.size)); have HO7 := Aside0.mk (Kd.R_below HO6.out hD7.below); have HN7 := Aside0.mk (Kd.R_below HN6.out hD7.below); have HW7 := Aside0.mk (Kd.R_mono (Kd.R_bound (Kd.R_below HW6.out hD7.below)) (ok' := fun k => w5.heap.size ≤ k) (fun k hk => hk.2.1)); clear hD7)
    go_wp2_with fail
    go_loopg [8] (l.length + 1) (fun kq v8 w' => ∃ (i : Int) (os : List S36), v8 = .int .i64 i ∧ 0 ≤ i ∧ i ≤ (l.length : Int) ∧ l.length + 1 ≤ kq + i.toNat ∧ Aside0 (os.length = l.length) ∧ Aside0 (k36.R 36 w' w1.heap.size (fun k => w1.heap.size ≤ k ∧ k < w4.heap.size) (.slice A4 l.length c4) os) ∧ Aside0 (k39.R 39 w' w4.heap.size (fun k => w4.heap.size ≤ k) (.slice none 0 0) ([] : List S39)) ∧ Aside0 (k36.R 36 w' w5.heap.size (fun k => w5.heap.size ≤ k) (.slice A6 ks.length c6) ks) ∧ Aside0 (Below W.heap.size W w'))
    case atStart => exact ⟨0, l, rfl, by omega, by omega, by simp, ⟨rfl⟩, HO7, HN7, HW7, HB7⟩
    case round =>
      obtain ⟨i, os, rfl, h2, h3, h4, HOl, HO, HN, HK, HB⟩ := hrel
      cases gk with
      | zero => omega
      | succ kr =>
        by_cases hlt : i < (l.length : Int)
        · have p1 : (i < (l.length : Int)) = True := eq_true hlt
          have p2 : ((0 : Int) ≤ i) = True := eq_true h2
          have hw : IntKind.i64.wrap (i + 1) = i + 1 := by rw [IntKind.wrap_i64]; have := L1.out; omega
          have Q := Aside0.mk (show 0 ≤ i + 1 ∧ i + 1 ≤ (l.length : Int) ∧ l.length + 1 ≤ kr + (i + 1).toNat by omega)
          obtain ⟨g4, c4', e4, _⟩ := Kd.R_form HO.out (by rw [HOl.out]; omega)
          simp only [Value.slice.injEq] at e4
          obtain ⟨rfl, eN, rfl⟩ := e4; clear eN
          obtain ⟨og, gb, gl, ⟨u0, u1, u2, x0, x1, x2⟩, ⟨z0, z1, z2⟩, hset⟩ := tok_set HO.out i h2 hlt
          obtain ⟨os', hol, hO'⟩ := hset ⟨4, 0, ⟨#[120]⟩⟩
          have HO2 := Aside0.mk hO'
          have HOl2 := Aside0.mk (hol.trans HOl.out)
          have HN2 := Aside0.mk (R_past3 HN.out (g := g4) (fun k hk e => by have := og.2; omega) (i.toNat * 3) (i.toNat * 3 + 1) (i.toNat * 3 + 2) (.int .i64 4) (.int .i64 0) (.string ⟨#[120]⟩))
          have HK2 := Aside0.mk (R_past3 HK.out (g := g4) (fun k hk e => by have := og.2; have := HS5.out; omega) (i.toNat * 3) (i.toNat * 3 + 1) (i.toNat * 3 + 2) (.int .i64 4) (.int .i64 0) (.string ⟨#[120]⟩))
          have HB2 := Aside0.mk (below3 HB.out (g := g4) (by have := HB1.out.size; omega) (i.toNat * 3) (i.toNat * 3 + 1) (i.toNat * 3 + 2) (.int .i64 4) (.int .i64 0) (.string ⟨#[120]⟩))
          clear hO' hset hol og gb h1 h2 h3 h4 HO HN HK HB
          go_wp2_with fail
          go_roundg kr
          case measure => omega
          case rel => exact ⟨i + 1, os', (by first | rfl | (rw [← hw]; rfl) | (simp; done) | (simp [*]; done)), Q.out.1, Q.out.2.1, Q.out.2.2, HOl2, HO2, HN2, HK2, HB2⟩
        · have p1 : (i < (l.length : Int)) = False := eq_false hlt
          clear HO HOl h2 h3 h4
          go_upto_region 14 with (go_at_call 12; (refine (CF.out _ _ _ (Kd.R_reads' HN.out).2.2 (cap_of HN.out)).mono ?_); rintro e w13 ⟨v13, rfl, hR13, hB13⟩; obtain ⟨A13, c13, e13⟩ := Kd.R_slice hR13; subst e13; have HK13 := Aside0.mk (Kd.R_mono (Kd.R_bound hR13) (ok' := fun k => wr.heap.size ≤ k) (fun k hk => hk.2.1)); have HN13 := Aside0.mk (Kd.R_mono (Kd.R_bound HN.out) (ok' := fun k => k < wr.heap.size) (fun k hk => hk.2.2.1)); have HN13 := Aside0.mk (Kd.R_below HN13.out hB13); have HW13 := Aside0.mk (Kd.R_mono (Kd.R_bound HK.out) (ok' := fun k => k < wr.heap.size) (fun k hk => hk.2.2.1)); have HW13 := Aside0.mk (Kd.R_below HW13.out hB13); have HB13 := Aside0.mk (HB.out.trans (hB13.mono HB.out.size)); clear hB13 hR13)
          go_wp2_with fail
          go_loopg [10] (ks.length + 1) (fun kq v10 w' => ∃ (i : Int) (ys : List S36), v10 = .int .i64 i ∧ 0 ≤ i ∧ i ≤ (ks.length : Int) ∧ ks.length + 1 ≤ kq + i.toNat ∧ Aside0 (ys.length = ks.length) ∧ Aside0 (k36.R 36 w' wr.heap.size (fun k => wr.heap.size ≤ k) (.slice A13 ks.length c13) ys) ∧ Aside0 (k39.R 39 w' w4.heap.size (fun k => k < wr.heap.size) (.slice none 0 0) ([] : List S39)) ∧ Aside0 (k36.R 36 w' w5.heap.size (fun k => k < wr.heap.size) (.slice A6 ks.length c6) ks) ∧ Aside0 (Below W.heap.size W w'))
          case atStart => exact ⟨0, ks, rfl, by omega, by omega, by simp, ⟨rfl⟩, HK13, HN13, HW13, HB13⟩
          case round =>
            obtain ⟨j, ys, rfl, h5, h6, h7, HYl, HY, HN2, HK2, HB2⟩ := hrel
            cases gk with
            | zero => omega
            | succ kr2 =>
              by_cases hlt2 : j < (ks.length : Int)
              · have q1 : (j < (ks.length : Int)) = True := eq_true hlt2
                have q2 : ((0 : Int) ≤ j) = True := eq_true h5
                have hw : IntKind.i64.wrap (j + 1) = j + 1 := by rw [IntKind.wrap_i64]; have := HFl.out; omega
                have Q := Aside0.mk (show 0 ≤ j + 1 ∧ j + 1 ≤ (ks.length : Int) ∧ ks.length + 1 ≤ kr2 + (j + 1).toNat by omega)
                obtain ⟨g4, c4', e4, _⟩ := Kd.R_form HY.out (by rw [HYl.out]; omega)
                simp only [Value.slice.injEq] at e4
                obtain ⟨rfl, eN, rfl⟩ := e4; clear eN
                obtain ⟨og, gb, gl, ⟨u0, u1, u2, x0, x1, x2⟩, ⟨z0, z1, z2⟩, hset⟩ := tok_set HY.out j h5 hlt2
                obtain ⟨ys', hol, hO'⟩ := hset ⟨0, 0, ⟨#[]⟩⟩
                have HY3 := Aside0.mk hO'
                have HYl3 := Aside0.mk (hol.trans HYl.out)
                have HN3 := Aside0.mk (R_past3 HN2.out (g := g4) (fun k hk e => by omega) (j.toNat * 3) (j.toNat * 3 + 1) (j.toNat * 3 + 2) (.int .i64 0) (.int .i64 0) (.string ⟨#[]⟩))
                have HK3 := Aside0.mk (R_past3 HK2.out (g := g4) (fun k hk e => by omega) (j.toNat * 3) (j.toNat * 3 + 1) (j.toNat * 3 + 2) (.int .i64 0) (.int .i64 0) (.string ⟨#[]⟩))
                have HB3 := Aside0.mk (below3 HB2.out (g := g4) (by have := HB.out.size; omega) (j.toNat * 3) (j.toNat * 3 + 1) (j.toNat * 3 + 2) (.int .i64 0) (.int .i64 0) (.string ⟨#[]⟩))
                clear hO' hset hol og gb h1 h5 h6 h7 HY HN2 HK2 HB2
                go_wp2_with fail
                go_roundg kr2
                case measure => omega
                case rel => exact ⟨j + 1, ys', (by first | rfl | (rw [← hw]; rfl) | (simp; done) | (simp [*]; done)), Q.out.1, Q.out.2.1, Q.out.2.2, HYl3, HY3, HN3, HK3, HB3⟩
              · have q1 : (j < (ks.length : Int)) = False := eq_false hlt2
                clear HY HYl h5 h6 h7
                go_upto_region 19 with (go_at_call 8; (refine (CP.out _ _ _ (Kd.C_below HA.out HB2.out)).mono ?_); rintro e w18 ⟨⟨t18, u18_, rfl⟩, hB18⟩; have HM18 := Aside0.mk (Kd.R_nil k39 39 w18 wr.heap.size (fun _ => True)); have HN18 := Aside0.mk (Kd.R_below HN2.out hB18); have HK18 := Aside0.mk (Kd.R_below HK2.out hB18); have HB18 := Aside0.mk (HB2.out.trans (hB18.mono HB2.out.size)); clear hB18)
                refine wp_region_heldP (fun _ _ => True) (by kernel_rfl) ?_
                simp only [List.size_toArray, List.length_cons, List.length_nil, Nat.zero_add, Nat.reduceAdd, Array.replicate, List.replicate]
                refine takeA 0 (.bool true) rfl (by kernel_rfl) (by kernel_rfl) (by kernel_rfl) (fun _ _ _ h => h) (by rfl) (by intro w; go_simp) ?_
                simp only [Act.put, List.setIfInBounds_toArray, List.set_cons_zero, List.set_cons_succ]
                refine takeA 1 (.bool true) rfl (by kernel_rfl) (by kernel_rfl) (by kernel_rfl) (fun _ _ _ h => h) (by rfl) (by intro w; go_simp) ?_
                simp only [Act.put, List.setIfInBounds_toArray, List.set_cons_zero, List.set_cons_succ]
                refine takeA 2 (.iface t5 u5_) rfl (by kernel_rfl) (by kernel_rfl) (by kernel_rfl) (fun _ _ _ h => h) (by rfl) (by intro w; go_simp) ?_
                simp only [Act.put, List.setIfInBounds_toArray, List.set_cons_zero, List.set_cons_succ]
                refine takeA 3 (.bool false) rfl (by kernel_rfl) (by kernel_rfl) (by kernel_rfl) (fun _ _ _ h => h) (by rfl) (by intro w; go_simp) ?_
                simp only [Act.put, List.setIfInBounds_toArray, List.set_cons_zero, List.set_cons_succ]
                refine takeA 4 (.iface t18 u18_) rfl (by kernel_rfl) (by kernel_rfl) (by kernel_rfl) (fun _ _ _ h => h) (by rfl) (by intro w; go_simp) ?_
                simp only [Act.put, List.setIfInBounds_toArray, List.set_cons_zero, List.set_cons_succ]
                refine takeA 5 (.bool false) rfl (by kernel_rfl) (by kernel_rfl) (by kernel_rfl) (fun _ _ _ h => h) (by rfl) (by intro w; go_simp) ?_
                simp only [Act.put, List.setIfInBounds_toArray, List.set_cons_zero, List.set_cons_succ]
                refine takeA 6 (.bool true) rfl (by kernel_rfl) (by kernel_rfl) (by kernel_rfl) (fun _ _ _ h => h) (by rfl) (by intro w; go_simp) ?_
                simp only [Act.put, List.setIfInBounds_toArray, List.set_cons_zero, List.set_cons_succ]
                refine takeA 7 (.bool true) rfl (by kernel_rfl) (by kernel_rfl) (by kernel_rfl) (fun _ _ _ h => h) (by rfl) (by intro w; go_simp) ?_
                simp only [Act.put, List.setIfInBounds_toArray, List.set_cons_zero, List.set_cons_succ]
                refine takeA 8 (.bool true) rfl (by kernel_rfl) (by kernel_rfl) (by kernel_rfl) (fun _ _ _ h => h) (by rfl) (by intro w; go_simp) ?_
                simp only [Act.put, List.setIfInBounds_toArray, List.set_cons_zero, List.set_cons_succ]
                refine takeA 9 (.slice none 0 0) rfl (by kernel_rfl) (by kernel_rfl) (by kernel_rfl) (fun _ _ _ h => h) (by rfl) (by intro w; go_simp) ?_
                simp only [Act.put, List.setIfInBounds_toArray, List.set_cons_zero, List.set_cons_succ]
                refine takeA 11 (.slice A6 ks.length c6) rfl (by kernel_rfl) (by kernel_rfl) (by kernel_rfl) (fun _ _ _ h => h) (by rfl) (by intro w; go_simp) ?_
                simp only [Act.put, List.setIfInBounds_toArray, List.set_cons_zero, List.set_cons_succ]
                refine wpAnyP_one (i := 10) (by kernel_rfl) (wpOp_run (i := 10) rfl (fun K10 hK10 => ?_))
                go_simp
                refine (CF.out _ _ _ (Kd.C_drew (Kd.R_reads' HN18.out).2.2) (cap_of HN18.out)).mono ?_
                rintro e w20 ⟨v20, rfl, hR20, hB20⟩
                obtain ⟨A20, c20, e20⟩ := Kd.R_slice hR20
                subst e20
                have HR20 := Aside0.mk hR20
                have HK20 := Aside0.mk (Kd.R_below (Kd.R_drew HK18.out) hB20)
                have HM20 := Aside0.mk (Kd.R_below (Kd.R_drew HM18.out) hB20)
                have HB20 := Aside0.mk ((below_drew HB18.out).trans (hB20.mono (below_drew HB18.out).size))
                clear hB20 hR20
                refine hK10.out _ _ ⟨trivial, ?_⟩
                clear hK10 K10
                simp only [Act.put, List.setIfInBounds_toArray, List.set_cons_zero, List.set_cons_succ]
                refine wpAnyP_one (i := 12) (by kernel_rfl) (wpOp_run (i := 12) rfl (fun K12 hK12 => ?_))
                go_simp
                refine (CS.out _ _ _ _ _ ks HFl.out (Kd.R_reads' HR20.out).2.2 (cap_of HR20.out) (Kd.R_reads' HK20.out).2.2 (cap_of HK20.out)).mono ?_
                rintro e w21 ⟨rfl, hD21⟩
                have HB21 := Aside0.mk (HB20.out.trans (hD21.below.mono HB20.out.size))
                have HK21 := Aside0.mk (Kd.R_below HK20.out hD21.below)
                have HM21 := Aside0.mk (Kd.R_below HM20.out hD21.below)
                clear hD21
                refine hK12.out _ _ ⟨trivial, ?_⟩
                clear hK12 K12
                simp only [Act.put, List.setIfInBounds_toArray, List.set_cons_zero, List.set_cons_succ]
                refine takeA 13 (.bool true) rfl (by kernel_rfl) (by kernel_rfl) (by kernel_rfl) (fun _ _ _ h => h) (by rfl) (by intro w; go_simp) ?_
                simp only [Act.put, List.setIfInBounds_toArray, List.set_cons_zero, List.set_cons_succ]
                refine takeA 14 (.bool true) rfl (by kernel_rfl) (by kernel_rfl) (by kernel_rfl) (fun _ _ _ h => h) (by rfl) (by intro w; go_simp) ?_
                simp only [Act.put, List.setIfInBounds_toArray, List.set_cons_zero, List.set_cons_succ]
                refine takeA 15 (.slice none 0 0) rfl (by kernel_rfl) (by kernel_rfl) (by kernel_rfl) (fun _ _ _ h => h) (by rfl) (by intro w; go_simp) ?_
                simp only [Act.put, List.setIfInBounds_toArray, List.set_cons_zero, List.set_cons_succ]
                refine takeA 17 (.slice A6 ks.length c6) rfl (by kernel_rfl) (by kernel_rfl) (by kernel_rfl) (fun _ _ _ h => h) (by rfl) (by intro w; go_simp) ?_
                simp only [Act.put, List.setIfInBounds_toArray, List.set_cons_zero, List.set_cons_succ]
                refine wpAnyP_one (i := 16) (by kernel_rfl) (wpOp_run (i := 16) rfl (fun K16 hK16 => ?_))
                go_simp
                refine (CF.out _ _ _ (Kd.R_reads' HM21.out).2.2 (cap_of HM21.out)).mono ?_
                rintro e w22 ⟨v22, rfl, hR22, hB22⟩
                obtain ⟨A22, c22, e22⟩ := Kd.R_slice hR22
                subst e22
                have HR22 := Aside0.mk hR22
                have HK22 := Aside0.mk (Kd.R_below HK21.out hB22)
                have HB22 := Aside0.mk (HB21.out.trans (hB22.mono HB21.out.size))
                clear hB22 hR22
                refine hK16.out _ _ ⟨trivial, ?_⟩
                clear hK16 K16
                simp only [Act.put, List.setIfInBounds_toArray, List.set_cons_zero, List.set_cons_succ]
                refine wpAnyP_one (i := 18) (by kernel_rfl) (wpOp_run (i := 18) rfl (fun K18 hK18 => ?_))
                go_simp
                refine (CS.out _ _ _ _ _ ks HFl.out (Kd.R_reads' HR22.out).2.2 (cap_of HR22.out) (Kd.R_reads' HK22.out).2.2 (cap_of HK22.out)).mono ?_
                rintro e w23 ⟨rfl, hD23⟩
                have HB23 := Aside0.mk (HB22.out.trans (hD23.below.mono HB22.out.size))
                clear hD23
                refine hK18.out _ _ ⟨trivial, ?_⟩
                clear hK18 K18
                simp only [Act.put, List.setIfInBounds_toArray, List.set_cons_zero, List.set_cons_succ]
                refine takeA 19 (.bool true) rfl (by kernel_rfl) (by kernel_rfl) (by kernel_rfl) (fun _ _ _ h => h) (by rfl) (by intro w; go_simp) ?_
                simp only [Act.put, List.setIfInBounds_toArray, List.set_cons_zero, List.set_cons_succ]
                refine takeA 20 (.bool true) rfl (by kernel_rfl) (by kernel_rfl) (by kernel_rfl) (fun _ _ _ h => h) (by rfl) (by intro w; go_simp) ?_
                simp only [Act.put, List.setIfInBounds_toArray, List.set_cons_zero, List.set_cons_succ]
                refine wpAnyP_done (by kernel_rfl) ?_ _
                go_wp2_with fail
                go_ret
                exact ⟨rfl, HB23.out⟩
  | some n =>
    rw [hp] at CP hns
    obtain rfl : ns = n := hns
    clear hp
    go_enter Try.func6, Try.ntmps6
    go_upto_region 4 with (go_at_call 7; (refine (grommetlaw10_up.calls true _ rfl).mono ?_); rintro e w1 ⟨rfl, hB1⟩; have HB1 := Aside0.mk hB1; clear hB1)
    go_upto_region 5 with ((with_reducible refine gate_builtin (b := .append) (xs := #[.tmp 18, .tmp 19]) rfl ?_); at_builtin; refine Kd.R_append_rows k36 (Rr := k36.K W) (w0 := w1) w1.heap.size rfl (.tmp 18) (.tmp 19) 22 36 (.agg #[(.int .i64 0), (.int .i64 0), (.string ⟨#[]⟩)]) 32 rfl Try.underlying22 info36 rfl (Nat.zero_lt_succ _) (by omega) (.slice (some ⟨w1.heap.size, 0, none⟩) 0 0) ([] : List S36) l _ _ _ (fun _ => True) (fun _ => False) rfl rfl ?aO ?aR ?aK (fun _ h => h.elim) (fun _ _ => trivial) ?aB ?aS ?aL ?_; (case aO => exact (R_none0 k36 w1 w1.heap.size (Nat.le_refl _) 36)); (case aR => exact (Kd.C_below HA.out (below_alloc HB1.out _))); (case aK => exact (fun x cs h => tok_M _ _ _ _ x cs h)); (case aB => exact (below_alloc (Below.refl _ _) _)); (case aS => exact (below_alloc (Below.refl w1.heap.size w1) _).size); (case aL => have := L1.out; (try simp only [List.length_nil]); omega); intro v4 w4 hR4 hB4 hg4 hat4; rw [List.nil_append] at hR4; obtain ⟨A4, c4, e4⟩ := Kd.R_slice hR4; subst e4; have HO4 := Aside0.mk (Kd.R_mono (Kd.R_bound hR4) (ok' := fun k => w1.heap.size ≤ k ∧ k < w4.heap.size) (fun k hk => ⟨hk.2.1, hk.2.2.1⟩)); have HB4 := Aside0.mk (HB1.out.trans (hB4.mono HB1.out.size)); have HS4 := Aside0.mk hB4.size; clear hR4 hB4 hg4 hat4)
    go_upto_region 6 with (go_at_call 8; (refine (CP.out _ _ _ (Kd.R_reads' HO4.out).2.2).mono ?_); rintro e w5 ⟨⟨A5, c5, rfl, hR5⟩, hB5⟩; have HN5 := Aside0.mk hR5; clear hR5; have HO5 := Aside0.mk (Kd.R_below HO4.out hB5); have HB5 := Aside0.mk (HB4.out.trans (hB5.mono HB4.out.size)); have HS5 := Aside0.mk hB5.size; clear hB5)
    go_upto_region 7 with (go_at_call 13; (refine (CR.out _ _ _ (Kd.R_reads' HN5.out).2.2 (cap_of HN5.out)).mono ?_); rintro e w6 ⟨v6, rfl, hR6, hB6⟩; obtain ⟨A6, c6, e6⟩ := Kd.R_slice hR6; subst e6; have HW6 := Aside0.mk hR6; have HO6 := Aside0.mk (Kd.R_below HO5.out hB6); have HN6 := Aside0.mk (Kd.R_mono (Kd.R_bound (Kd.R_below HN5.out hB6)) (ok' := fun k => w4.heap.size ≤ k) (fun k hk => hk.2.1)); have HB6 := Aside0.mk (HB5.out.trans (hB6.mono HB5.out.size)); have HS6 := Aside0.mk hB6.size; clear hB6 hR6)
    go_upto_region 9 with (go_at_call 11; (refine (CS.out _ _ _ _ _ l (by have := L1.out; omega) (Kd.R_reads' HO6.out).2.2 (cap_of HO6.out) (Kd.C_below HA.out HB6.out) HCc.out).mono ?_); rintro e w7 ⟨rfl, hD7⟩; have HB7 := Aside0.mk (HB6.out.trans (hD7.below.mono HB6.out.size)); have HO7 := Aside0.mk (Kd.R_below HO6.out hD7.below); have HN7 := Aside0.mk (Kd.R_below HN6.out hD7.below); have HW7 := Aside0.mk (Kd.R_mono (Kd.R_bound (Kd.R_below HW6.out hD7.below)) (ok' := fun k => w5.heap.size ≤ k) (fun k hk => hk.2.1)); clear hD7)
    go_wp2_with fail
    go_loopg [8] (l.length + 1) (fun kq v8 w' => ∃ (i : Int) (os : List S36), v8 = .int .i64 i ∧ 0 ≤ i ∧ i ≤ (l.length : Int) ∧ l.length + 1 ≤ kq + i.toNat ∧ Aside0 (os.length = l.length) ∧ Aside0 (k36.R 36 w' w1.heap.size (fun k => w1.heap.size ≤ k ∧ k < w4.heap.size) (.slice A4 l.length c4) os) ∧ Aside0 (k39.R 39 w' w4.heap.size (fun k => w4.heap.size ≤ k) (.slice A5 ns.length c5) ns) ∧ Aside0 (k36.R 36 w' w5.heap.size (fun k => w5.heap.size ≤ k) (.slice A6 ks.length c6) ks) ∧ Aside0 (Below W.heap.size W w'))
    case atStart => exact ⟨0, l, rfl, by omega, by omega, by simp, ⟨rfl⟩, HO7, HN7, HW7, HB7⟩
    case round =>
      obtain ⟨i, os, rfl, h2, h3, h4, HOl, HO, HN, HK, HB⟩ := hrel
      cases gk with
      | zero => omega
      | succ kr =>
        by_cases hlt : i < (l.length : Int)
        · have p1 : (i < (l.length : Int)) = True := eq_true hlt
          have p2 : ((0 : Int) ≤ i) = True := eq_true h2
          have hw : IntKind.i64.wrap (i + 1) = i + 1 := by rw [IntKind.wrap_i64]; have := L1.out; omega
          have Q := Aside0.mk (show 0 ≤ i + 1 ∧ i + 1 ≤ (l.length : Int) ∧ l.length + 1 ≤ kr + (i + 1).toNat by omega)
          obtain ⟨g4, c4', e4, _⟩ := Kd.R_form HO.out (by rw [HOl.out]; omega)
          simp only [Value.slice.injEq] at e4
          obtain ⟨rfl, eN, rfl⟩ := e4; clear eN
          obtain ⟨og, gb, gl, ⟨u0, u1, u2, x0, x1, x2⟩, ⟨z0, z1, z2⟩, hset⟩ := tok_set HO.out i h2 hlt
          obtain ⟨os', hol, hO'⟩ := hset ⟨4, 0, ⟨#[120]⟩⟩
          have HO2 := Aside0.mk hO'
          have HOl2 := Aside0.mk (hol.trans HOl.out)
          have HN2 := Aside0.mk (R_past3 HN.out (g := g4) (fun k hk e => by have := og.2; omega) (i.toNat * 3) (i.toNat * 3 + 1) (i.toNat * 3 + 2) (.int .i64 4) (.int .i64 0) (.string ⟨#[120]⟩))
          have HK2 := Aside0.mk (R_past3 HK.out (g := g4) (fun k hk e => by have := og.2; have := HS5.out; omega) (i.toNat * 3) (i.toNat * 3 + 1) (i.toNat * 3 + 2) (.int .i64 4) (.int .i64 0) (.string ⟨#[120]⟩))
          have HB2 := Aside0.mk (below3 HB.out (g := g4) (by have := HB1.out.size; omega) (i.toNat * 3) (i.toNat * 3 + 1) (i.toNat * 3 + 2) (.int .i64 4) (.int .i64 0) (.string ⟨#[120]⟩))
          clear hO' hset hol og gb h1 h2 h3 h4 HO HN HK HB
          go_wp2_with fail
          go_roundg kr
          case measure => omega
          case rel => exact ⟨i + 1, os', (by first | rfl | (rw [← hw]; rfl) | (simp; done) | (simp [*]; done)), Q.out.1, Q.out.2.1, Q.out.2.2, HOl2, HO2, HN2, HK2, HB2⟩
        · have p1 : (i < (l.length : Int)) = False := eq_false hlt
          clear HO HOl h2 h3 h4
          go_upto_region 14 with (go_at_call 12; (refine (CF.out _ _ _ (Kd.R_reads' HN.out).2.2 (cap_of HN.out)).mono ?_); rintro e w13 ⟨v13, rfl, hR13, hB13⟩; obtain ⟨A13, c13, e13⟩ := Kd.R_slice hR13; subst e13; have HK13 := Aside0.mk (Kd.R_mono (Kd.R_bound hR13) (ok' := fun k => wr.heap.size ≤ k) (fun k hk => hk.2.1)); have HN13 := Aside0.mk (Kd.R_mono (Kd.R_bound HN.out) (ok' := fun k => k < wr.heap.size) (fun k hk => hk.2.2.1)); have HN13 := Aside0.mk (Kd.R_below HN13.out hB13); have HW13 := Aside0.mk (Kd.R_mono (Kd.R_bound HK.out) (ok' := fun k => k < wr.heap.size) (fun k hk => hk.2.2.1)); have HW13 := Aside0.mk (Kd.R_below HW13.out hB13); have HB13 := Aside0.mk (HB.out.trans (hB13.mono HB.out.size)); clear hB13 hR13)
          go_wp2_with fail
          go_loopg [10] (ks.length + 1) (fun kq v10 w' => ∃ (i : Int) (ys : List S36), v10 = .int .i64 i ∧ 0 ≤ i ∧ i ≤ (ks.length : Int) ∧ ks.length + 1 ≤ kq + i.toNat ∧ Aside0 (ys.length = ks.length) ∧ Aside0 (k36.R 36 w' wr.heap.size (fun k => wr.heap.size ≤ k) (.slice A13 ks.length c13) ys) ∧ Aside0 (k39.R 39 w' w4.heap.size (fun k => k < wr.heap.size) (.slice A5 ns.length c5) ns) ∧ Aside0 (k36.R 36 w' w5.heap.size (fun k => k < wr.heap.size) (.slice A6 ks.length c6) ks) ∧ Aside0 (Below W.heap.size W w'))
          case atStart => exact ⟨0, ks, rfl, by omega, by omega, by simp, ⟨rfl⟩, HK13, HN13, HW13, HB13⟩
          case round =>
            obtain ⟨j, ys, rfl, h5, h6, h7, HYl, HY, HN2, HK2, HB2⟩ := hrel
            cases gk with
            | zero => omega
            | succ kr2 =>
              by_cases hlt2 : j < (ks.length : Int)
              · have q1 : (j < (ks.length : Int)) = True := eq_true hlt2
                have q2 : ((0 : Int) ≤ j) = True := eq_true h5
                have hw : IntKind.i64.wrap (j + 1) = j + 1 := by rw [IntKind.wrap_i64]; have := HFl.out; omega
                have Q := Aside0.mk (show 0 ≤ j + 1 ∧ j + 1 ≤ (ks.length : Int) ∧ ks.length + 1 ≤ kr2 + (j + 1).toNat by omega)
                obtain ⟨g4, c4', e4, _⟩ := Kd.R_form HY.out (by rw [HYl.out]; omega)
                simp only [Value.slice.injEq] at e4
                obtain ⟨rfl, eN, rfl⟩ := e4; clear eN
                obtain ⟨og, gb, gl, ⟨u0, u1, u2, x0, x1, x2⟩, ⟨z0, z1, z2⟩, hset⟩ := tok_set HY.out j h5 hlt2
                obtain ⟨ys', hol, hO'⟩ := hset ⟨0, 0, ⟨#[]⟩⟩
                have HY3 := Aside0.mk hO'
                have HYl3 := Aside0.mk (hol.trans HYl.out)
                have HN3 := Aside0.mk (R_past3 HN2.out (g := g4) (fun k hk e => by omega) (j.toNat * 3) (j.toNat * 3 + 1) (j.toNat * 3 + 2) (.int .i64 0) (.int .i64 0) (.string ⟨#[]⟩))
                have HK3 := Aside0.mk (R_past3 HK2.out (g := g4) (fun k hk e => by omega) (j.toNat * 3) (j.toNat * 3 + 1) (j.toNat * 3 + 2) (.int .i64 0) (.int .i64 0) (.string ⟨#[]⟩))
                have HB3 := Aside0.mk (below3 HB2.out (g := g4) (by have := HB.out.size; omega) (j.toNat * 3) (j.toNat * 3 + 1) (j.toNat * 3 + 2) (.int .i64 0) (.int .i64 0) (.string ⟨#[]⟩))
                clear hO' hset hol og gb h1 h5 h6 h7 HY HN2 HK2 HB2
                go_wp2_with fail
                go_roundg kr2
                case measure => omega
                case rel => exact ⟨j + 1, ys', (by first | rfl | (rw [← hw]; rfl) | (simp; done) | (simp [*]; done)), Q.out.1, Q.out.2.1, Q.out.2.2, HYl3, HY3, HN3, HK3, HB3⟩
              · have q1 : (j < (ks.length : Int)) = False := eq_false hlt2
                clear HY HYl h5 h6 h7
                go_upto_region 19 with (go_at_call 8; (refine (CP.out _ _ _ (Kd.C_below HA.out HB2.out)).mono ?_); rintro e w18 ⟨⟨A18, c18, rfl, hR18⟩, hB18⟩; have HM18 := Aside0.mk hR18; clear hR18; have HN18 := Aside0.mk (Kd.R_below HN2.out hB18); have HK18 := Aside0.mk (Kd.R_below HK2.out hB18); have HB18 := Aside0.mk (HB2.out.trans (hB18.mono HB2.out.size)); clear hB18)
                refine wp_region_heldP (fun _ _ => True) (by kernel_rfl) ?_
                simp only [List.size_toArray, List.length_cons, List.length_nil, Nat.zero_add, Nat.reduceAdd, Array.replicate, List.replicate]
                refine takeA 0 (.bool true) rfl (by kernel_rfl) (by kernel_rfl) (by kernel_rfl) (fun _ _ _ h => h) (by rfl) (by intro w; go_simp) ?_
                simp only [Act.put, List.setIfInBounds_toArray, List.set_cons_zero, List.set_cons_succ]
                refine takeA 1 (.bool true) rfl (by kernel_rfl) (by kernel_rfl) (by kernel_rfl) (fun _ _ _ h => h) (by rfl) (by intro w; go_simp) ?_
                simp only [Act.put, List.setIfInBounds_toArray, List.set_cons_zero, List.set_cons_succ]
                refine takeA 2 .nilIface rfl (by kernel_rfl) (by kernel_rfl) (by kernel_rfl) (fun _ _ _ h => h) (by rfl) (by intro w; go_simp) ?_
                simp only [Act.put, List.setIfInBounds_toArray, List.set_cons_zero, List.set_cons_succ]
                refine takeA 3 (.bool true) rfl (by kernel_rfl) (by kernel_rfl) (by kernel_rfl) (fun _ _ _ h => h) (by rfl) (by intro w; go_simp) ?_
                simp only [Act.put, List.setIfInBounds_toArray, List.set_cons_zero, List.set_cons_succ]
                refine takeA 4 .nilIface rfl (by kernel_rfl) (by kernel_rfl) (by kernel_rfl) (fun _ _ _ h => h) (by rfl) (by intro w; go_simp) ?_
                simp only [Act.put, List.setIfInBounds_toArray, List.set_cons_zero, List.set_cons_succ]
                refine takeA 5 (.bool true) rfl (by kernel_rfl) (by kernel_rfl) (by kernel_rfl) (fun _ _ _ h => h) (by rfl) (by intro w; go_simp) ?_
                simp only [Act.put, List.setIfInBounds_toArray, List.set_cons_zero, List.set_cons_succ]
                refine takeA 6 (.bool true) rfl (by kernel_rfl) (by kernel_rfl) (by kernel_rfl) (fun _ _ _ h => h) (by rfl) (by intro w; go_simp) ?_
                simp only [Act.put, List.setIfInBounds_toArray, List.set_cons_zero, List.set_cons_succ]
                refine takeA 7 (.bool true) rfl (by kernel_rfl) (by kernel_rfl) (by kernel_rfl) (fun _ _ _ h => h) (by rfl) (by intro w; go_simp) ?_
                simp only [Act.put, List.setIfInBounds_toArray, List.set_cons_zero, List.set_cons_succ]
                refine takeA 8 (.bool true) rfl (by kernel_rfl) (by kernel_rfl) (by kernel_rfl) (fun _ _ _ h => h) (by rfl) (by intro w; go_simp) ?_
                simp only [Act.put, List.setIfInBounds_toArray, List.set_cons_zero, List.set_cons_succ]
                refine takeA 9 (.slice A5 ns.length c5) rfl (by kernel_rfl) (by kernel_rfl) (by kernel_rfl) (fun _ _ _ h => h) (by rfl) (by intro w; go_simp) ?_
                simp only [Act.put, List.setIfInBounds_toArray, List.set_cons_zero, List.set_cons_succ]
                refine takeA 11 (.slice A6 ks.length c6) rfl (by kernel_rfl) (by kernel_rfl) (by kernel_rfl) (fun _ _ _ h => h) (by rfl) (by intro w; go_simp) ?_
                simp only [Act.put, List.setIfInBounds_toArray, List.set_cons_zero, List.set_cons_succ]
                refine wpAnyP_one (i := 10) (by kernel_rfl) (wpOp_run (i := 10) rfl (fun K10 hK10 => ?_))
                go_simp
                refine (CF.out _ _ _ (Kd.C_drew (Kd.R_reads' HN18.out).2.2) (cap_of HN18.out)).mono ?_
                rintro e w20 ⟨v20, rfl, hR20, hB20⟩
                obtain ⟨A20, c20, e20⟩ := Kd.R_slice hR20
                subst e20
                have HR20 := Aside0.mk hR20
                have HK20 := Aside0.mk (Kd.R_below (Kd.R_drew HK18.out) hB20)
                have HM20 := Aside0.mk (Kd.R_below (Kd.R_drew HM18.out) hB20)
                have HB20 := Aside0.mk ((below_drew HB18.out).trans (hB20.mono (below_drew HB18.out).size))
                clear hB20 hR20
                refine hK10.out _ _ ⟨trivial, ?_⟩
                clear hK10 K10
                simp only [Act.put, List.setIfInBounds_toArray, List.set_cons_zero, List.set_cons_succ]
                refine wpAnyP_one (i := 12) (by kernel_rfl) (wpOp_run (i := 12) rfl (fun K12 hK12 => ?_))
                go_simp
                refine (CS.out _ _ _ _ _ ks HFl.out (Kd.R_reads' HR20.out).2.2 (cap_of HR20.out) (Kd.R_reads' HK20.out).2.2 (cap_of HK20.out)).mono ?_
                rintro e w21 ⟨rfl, hD21⟩
                have HB21 := Aside0.mk (HB20.out.trans (hD21.below.mono HB20.out.size))
                have HK21 := Aside0.mk (Kd.R_below HK20.out hD21.below)
                have HM21 := Aside0.mk (Kd.R_below HM20.out hD21.below)
                clear hD21
                refine hK12.out _ _ ⟨trivial, ?_⟩
                clear hK12 K12
                simp only [Act.put, List.setIfInBounds_toArray, List.set_cons_zero, List.set_cons_succ]
                refine takeA 13 (.bool true) rfl (by kernel_rfl) (by kernel_rfl) (by kernel_rfl) (fun _ _ _ h => h) (by rfl) (by intro w; go_simp) ?_
                simp only [Act.put, List.setIfInBounds_toArray, List.set_cons_zero, List.set_cons_succ]
                refine takeA 14 (.bool true) rfl (by kernel_rfl) (by kernel_rfl) (by kernel_rfl) (fun _ _ _ h => h) (by rfl) (by intro w; go_simp) ?_
                simp only [Act.put, List.setIfInBounds_toArray, List.set_cons_zero, List.set_cons_succ]
                refine takeA 15 (.slice A18 ns.length c18) rfl (by kernel_rfl) (by kernel_rfl) (by kernel_rfl) (fun _ _ _ h => h) (by rfl) (by intro w; go_simp) ?_
                simp only [Act.put, List.setIfInBounds_toArray, List.set_cons_zero, List.set_cons_succ]
                refine takeA 17 (.slice A6 ks.length c6) rfl (by kernel_rfl) (by kernel_rfl) (by kernel_rfl) (fun _ _ _ h => h) (by rfl) (by intro w; go_simp) ?_
                simp only [Act.put, List.setIfInBounds_toArray, List.set_cons_zero, List.set_cons_succ]
                refine wpAnyP_one (i := 16) (by kernel_rfl) (wpOp_run (i := 16) rfl (fun K16 hK16 => ?_))
                go_simp
                refine (CF.out _ _ _ (Kd.R_reads' HM21.out).2.2 (cap_of HM21.out)).mono ?_
                rintro e w22 ⟨v22, rfl, hR22, hB22⟩
                obtain ⟨A22, c22, e22⟩ := Kd.R_slice hR22
                subst e22
                have HR22 := Aside0.mk hR22
                have HK22 := Aside0.mk (Kd.R_below HK21.out hB22)
                have HB22 := Aside0.mk (HB21.out.trans (hB22.mono HB21.out.size))
                clear hB22 hR22
                refine hK16.out _ _ ⟨trivial, ?_⟩
                clear hK16 K16
                simp only [Act.put, List.setIfInBounds_toArray, List.set_cons_zero, List.set_cons_succ]
                refine wpAnyP_one (i := 18) (by kernel_rfl) (wpOp_run (i := 18) rfl (fun K18 hK18 => ?_))
                go_simp
                refine (CS.out _ _ _ _ _ ks HFl.out (Kd.R_reads' HR22.out).2.2 (cap_of HR22.out) (Kd.R_reads' HK22.out).2.2 (cap_of HK22.out)).mono ?_
                rintro e w23 ⟨rfl, hD23⟩
                have HB23 := Aside0.mk (HB22.out.trans (hD23.below.mono HB22.out.size))
                clear hD23
                refine hK18.out _ _ ⟨trivial, ?_⟩
                clear hK18 K18
                simp only [Act.put, List.setIfInBounds_toArray, List.set_cons_zero, List.set_cons_succ]
                refine takeA 19 (.bool true) rfl (by kernel_rfl) (by kernel_rfl) (by kernel_rfl) (fun _ _ _ h => h) (by rfl) (by intro w; go_simp) ?_
                simp only [Act.put, List.setIfInBounds_toArray, List.set_cons_zero, List.set_cons_succ]
                refine takeA 20 (.bool true) rfl (by kernel_rfl) (by kernel_rfl) (by kernel_rfl) (fun _ _ _ h => h) (by rfl) (by intro w; go_simp) ?_
                simp only [Act.put, List.setIfInBounds_toArray, List.set_cons_zero, List.set_cons_succ]
                refine wpAnyP_done (by kernel_rfl) ?_ _
                go_wp2_with fail
                go_ret
                exact ⟨rfl, HB23.out⟩
end Go.Proofs.Ytiicmihecdeebaa.Lt
