import Derived.Test.YtbelijoggbblgaaSp25
import Derived.Test.YtbelijoggbblgaaSp26
namespace Go.Proofs.Ytbelijoggbblgaa.Sp
open Go.RowKit Go.Proofs.YtbelijoggbblgaaW.PrintWords Go.Proofs.YtbelijoggbblgaaW.PrintLast Go.Proofs.YtbelijoggbblgaaW.PrintMore Go.Proofs.Ytbelijoggbblgaa.PStorePlays Go.Proofs.Ytbelijoggbblgaa.St
set_option linter.unusedVariables false
set_option linter.unusedSimpArgs false
set_option maxHeartbeats 1000000 in
theorem up_calls (w : World) : Calls Try.prog 6 #[] w fun e w' => e = .returned (.bool true) ∧ Below w.heap.size w w' := by
  have a1 : ∀ w1 : World, Row w1 w.heap.size 90 #[.slice none 0 0, .slice none 0 0, .slice none 0 0, .slice none 0 0, .slice none 0 0] → Below w.heap.size w w1 → w1.heap.size = w.heap.size + 1 →
      Calls Try.prog 11 #[.pointer (some ⟨w.heap.size, 0, none⟩), .agg #[.int .i64 1, .bool false, .int .u64 0]] w1 fun e w' => e = .returned (.int .i64 0) ∧ (∃ ok AG' cG', St w' (w.heap.size + 1) w.heap.size ok (.slice none 0 0) (.slice none 0 0) (.slice none 0 0) (.slice AG' (([⟨1, false, 0⟩] : List S41)).length cG') [] [] [] [⟨1, false, 0⟩]) ∧ w.heap.size + 1 ≤ w'.heap.size ∧ Below w.heap.size w w' := by
    intro w1 h1 h2 h3
    have hS0 := St.new (base := w.heap.size + 1) (Nat.lt_succ_self _) (fun _ => True) h1
    refine (addGlobal_calls (w := w1) (base := w.heap.size + 1) (G := []) (AG := none) (cG := 0) hS0 (by omega) (by decide) 1 false 0).mono ?_
    rintro e w' ⟨he, AG, cG, hS, hO⟩
    refine ⟨he, ⟨_, AG, cG, hS⟩, by have := hO.size; omega, hO.below h2 (by omega) (fun i hi => ?_)⟩
    rcases hi with rfl | hi
    · exact Nat.le_refl _
    · cases hi
  have a2 : ∀ (w2 : World) (ok : Nat → Prop) (AG : Option Addr) (cG : Nat), St w2 (w.heap.size + 1) w.heap.size ok (.slice none 0 0) (.slice none 0 0) (.slice none 0 0) (.slice AG (([⟨1, false, 0⟩] : List S41)).length cG) [] [] [] [⟨1, false, 0⟩] → w.heap.size + 1 ≤ w2.heap.size → Below w.heap.size w w2 →
      Calls Try.prog 11 #[.pointer (some ⟨w.heap.size, 0, none⟩), .agg #[.int .i64 2, .bool false, .int .u64 0]] w2 fun e w' => e = .returned (.int .i64 1) ∧ Below w.heap.size w w' := by
    intro w2 ok AG cG hS h2 h3
    refine (addGlobal_calls hS h2 (by decide) 2 false 0).mono ?_
    rintro e w' ⟨he, _, _, _, hO⟩
    refine ⟨he, hO.below h3 (by omega) (fun i hi => ?_)⟩
    rcases hi with rfl | hi
    · exact Nat.le_refl _
    · exact Nat.le_of_lt ((Kd.R_base hS.g) i (by rw [ownBlock_slice]; exact hi))
  have A1 := Aside0.mk a1
  have A2 := Aside0.mk a2
  clear a1 a2
  go_enter Try.func6, Try.ntmps6
  go_wp2_with (first
    | (go_at_call 7; (refine (new_calls _).mono ?_); rintro e w1 ⟨rfl, h1, h2, h3⟩; have H1 := Aside0.mk (And.intro h1 (And.intro h2 h3)); clear h1 h2 h3)
    | (go_at_call 11; (with_reducible refine (A1.out _ H1.out.1 H1.out.2.1 H1.out.2.2).mono ?_); rintro e w2 ⟨rfl, ⟨ok, AG, cG, hS⟩, h4, h5⟩; have H2 := Aside0.mk (And.intro hS (And.intro h4 h5)); clear hS h4 h5)
    | (go_at_call 11; (with_reducible refine (A2.out _ _ _ _ H2.out.1 H2.out.2.1 H2.out.2.2).mono ?_); rintro e w3 ⟨rfl, h6⟩))
  go_ret
  exact ⟨rfl, h6⟩
/-- A store and a model that are empty. -/
theorem pl_start {w W0 : World} {base s m : Nat} (hs : s < base) (hm : m < base) (h1 : Row w s 90 #[.slice none 0 0, .slice none 0 0, .slice none 0 0, .slice none 0 0, .slice none 0 0]) (h2 : Row w m 83 #[.slice none 0 0, .slice none 0 0, .slice none 0 0, .slice none 0 0, .slice none 0 0, .slice none 0 0]) : Pl w W0 base s m [] [] [] [] :=
  ⟨fun _ => 0, _, _, _, _, [], [], _, _, _, _, _, [], [], [], ⟨St.new hs _ h1, rfl, rfl, fun i p hp => by simp at hp, fun i p hp => by simp at hp, fun i p hp => by simp at hp, fun i p hp => by simp at hp⟩,
    ⟨⟨hm, h2, Kd.R_nil _ _ _ _ _, Kd.R_nil _ _ _ _ _, Kd.R_nil _ _ _ _ _, Kd.R_nil _ _ _ _ _, Kd.R_nil _ _ _ _ _⟩, rfl, rfl, rfl, fun i p hp => by simp at hp, fun i p hp => by simp at hp, fun i p hp => by simp at hp⟩⟩
set_option maxHeartbeats 8000000 in
set_option maxRecDepth 100000 in
theorem plays (W : World) (S : Option Addr) (ns cs : Nat) (hcs : ns ≤ cs) (hb : ns * 112 ≤ 140737488351232) (hS : Script W S ns) :
    Calls Try.prog 5 #[.slice S ns cs] W fun e w' => e = .returned (.bool true) ∧ Below W.heap.size W w' := by
  have HS := Aside0.mk hS
  clear hS
  go_enter Try.func5, Try.ntmps5
  go_upto_region 2 with (go_at_call 6; (refine (up_calls _).mono ?_); rintro e w1 ⟨rfl, hB1⟩; have HB1 := Aside0.mk hB1; clear hB1)
  go_upto_region 3 with (go_at_call 7; (refine (new_calls _).mono ?_); rintro e w2 ⟨rfl, hr2, hB2, hz2⟩; have HR2 := Aside0.mk hr2; have HB2 := Aside0.mk (HB1.out.trans (below_mono hB2 HB1.out.size)); have HZ2 := Aside0.mk hz2; clear hr2 hB2 hz2)
  go_wp2_with fail
  obtain ⟨w3, hw3⟩ : ∃ w3, w3 = w2.alloc (.cells #[.slice none 0 0, .slice none 0 0, .slice none 0 0, .slice none 0 0, .slice none 0 0, .slice none 0 0] 83) := ⟨_, rfl⟩
  have hP : Pl w3 W (w2.heap.size + 1) w1.heap.size w2.heap.size [] [] [] [] := by
    rw [hw3]
    exact pl_start (by rw [HZ2.out]; omega) (Nat.lt_succ_self _) (HR2.out.alloc _) (Row.made _ _ _ rfl)
  have hB3 : Below W.heap.size W w3 := by rw [hw3]; exact below_alloc HB2.out _
  have hz3 : w2.heap.size + 1 ≤ w3.heap.size := by rw [hw3]; simp
  rw [← hw3]
  clear hw3
  have h0 : W.heap.size ≤ w1.heap.size := HB1.out.size
  have h1 : W.heap.size ≤ w2.heap.size := HB2.out.size
  have hsm : w1.heap.size ≠ w2.heap.size := by rw [HZ2.out]; omega
  obtain ⟨s, hs⟩ : ∃ s, s = w1.heap.size := ⟨_, rfl⟩
  obtain ⟨m, hm⟩ : ∃ m, m = w2.heap.size := ⟨_, rfl⟩
  rw [← hs, ← hm] at hP
  rw [← hm] at hz3 h1
  rw [← hs] at h0
  rw [← hs, ← hm] at hsm
  rw [← hs, ← hm]
  have HP := Aside0.mk hP
  have HB3 := Aside0.mk hB3
  clear hs hm hP hB3 HR2 HZ2 HB2 HB1
  go_loopg [6] (min ns 60) (fun kq v6 w' => ∃ (i : Nat) (F : List S32) (L : List (List Int × Int)) (N : List (Nat × Int)) (G : List S41), v6 = .int .i64 i ∧ i + kq = min ns 60 ∧ Aside0 (Pl w' W (m + 1) s m F L N G) ∧ Aside0 (F.length ≤ i ∧ L.length ≤ i ∧ N.length ≤ i ∧ G.length ≤ i) ∧ Aside0 (Below W.heap.size W w') ∧ Aside0 (m + 1 ≤ w'.heap.size))
  case atStart => exact ⟨0, [], [], [], [], rfl, by omega, HP, ⟨by simp⟩, HB3, ⟨hz3⟩⟩
  case round =>
    obtain ⟨i, F, L, N, G, rfl, hi, hP, hl, hB, hz⟩ := hrel
    clear HP HB3 hz3
    cases gk with
    | succ k2 =>
      have hi1 : i < ns := by omega
      have hi2 : i < 60 := by omega
      obtain ⟨ad, hS1, what, n1, at_, inst, fn, ans, lo, hi9, ty, v, has, mu, P, R, cp, cr, ps, rs, D⟩ := HS.out i hi1
      subst hS1
      obtain ⟨hi, hhi⟩ : ∃ h, h = hi9 := ⟨_, rfl⟩
      rw [← hhi] at D
      clear hhi
      have q0 := pw_cell_below hB.out D.d0
      have q1 := pw_cell_below hB.out D.d1
      have q2 := pw_cell_below hB.out D.d2
      have q3 := pw_cell_below hB.out D.d3
      have q4 := pw_cell_below hB.out D.d4
      have q5 := pw_cell_below hB.out D.d5
      have q6 := pw_cell_below hB.out D.d6
      have q7 := pw_cell_below hB.out D.d7
      have q8 := pw_cell_below hB.out D.d8
      have q9 := pw_cell_below hB.out D.d9
      have q10 := pw_cell_below hB.out D.d10
      have q11 := pw_cell_below hB.out D.d11
      have q12 := pw_cell_below hB.out D.d12
      have q13 := pw_cell_below hB.out D.d13
      have dns : decide ((i : Int) < (ns : Int)) = true := decide_eq_true (by omega)
      have d60 : decide ((i : Int) < (60 : Int)) = true := decide_eq_true (by omega)
      have j0 : (0 : Int) ≤ (i : Int) := by omega
      have j1 : (i : Int) < (ns : Int) := by omega
      have hw1 : IntKind.i64.wrap ((i : Int) + 1) = (i : Int) + 1 := by rw [IntKind.wrap_i64]; omega
      have HD := Aside0.mk D
      clear D
      go_upto_region 10 with fail
      obtain ⟨w4, hw4⟩ : ∃ w4, w4 = wr.alloc (.cells (D14 what n1 at_ P ps.length cp R rs.length cr inst fn ans lo hi has ty mu v) 43) := ⟨_, rfl⟩
      have r4 : Row w4 wr.heap.size 43 (D14 what n1 at_ P ps.length cp R rs.length cr inst fn ans lo hi has ty mu v) := by rw [hw4]; exact Row.made _ _ _ rfl
      have hB4 : Below wr.heap.size wr w4 := by rw [hw4]; exact below_alloc (Below.refl _ _) _
      first | rw [← hw4] | (rw [show wr.alloc _ = w4 from hw4.symm]) | (change Code.wp _ _ _ _ (wr.alloc (.cells (D14 what n1 at_ P ps.length cp R rs.length cr inst fn ans lo hi has ty mu v) 43)); rw [← hw4])
      clear hw4
      have c0 : w4.cell? ⟨wr.heap.size, 0, none⟩ = some (.int .i64 what) := r4.cell 0
      have c1 : w4.cell? ⟨wr.heap.size, 1, none⟩ = some (.int .i64 n1) := r4.cell 1
      have c2 : w4.cell? ⟨wr.heap.size, 2, none⟩ = some (.int .i64 at_) := r4.cell 2
      have c3 : w4.cell? ⟨wr.heap.size, 3, none⟩ = some (.slice P ps.length cp) := r4.cell 3
      have c4 : w4.cell? ⟨wr.heap.size, 4, none⟩ = some (.slice R rs.length cr) := r4.cell 4
      have c5 : w4.cell? ⟨wr.heap.size, 5, none⟩ = some (.int .i64 inst) := r4.cell 5
      have c6 : w4.cell? ⟨wr.heap.size, 6, none⟩ = some (.int .i64 fn) := r4.cell 6
      have c7 : w4.cell? ⟨wr.heap.size, 7, none⟩ = some (.int .u64 ans) := r4.cell 7
      have c8 : w4.cell? ⟨wr.heap.size, 8, none⟩ = some (.int .i64 lo) := r4.cell 8
      have c9 : w4.cell? ⟨wr.heap.size, 9, none⟩ = some (.int .i64 hi) := r4.cell 9
      have c10 : w4.cell? ⟨wr.heap.size, 10, none⟩ = some (.bool has) := r4.cell 10
      have c11 : w4.cell? ⟨wr.heap.size, 11, none⟩ = some (.int .i64 ty) := r4.cell 11
      have c12 : w4.cell? ⟨wr.heap.size, 12, none⟩ = some (.bool mu) := r4.cell 12
      have c13 : w4.cell? ⟨wr.heap.size, 13, none⟩ = some (.int .u64 v) := r4.cell 13
      have HB4 := Aside0.mk hB4
      clear hB4 r4 q0 q1 q2 q3 q4 q5 q6 q7 q8 q9 q10 q11 q12 q13
      have hBW : Below W.heap.size W w4 := hB.out.trans (below_mono HB4.out hB.out.size)
      have HBW := Aside0.mk hBW
      clear hBW
      by_cases g1 : 300 < ps.length
      · have e1 : decide ((300 : Int) < (ps.length : Int)) = true := decide_eq_true (by omega)
        clear g1
        go_wp2_with fail
        go_ret
        exact ⟨rfl, HBW.out⟩
      · have e1 : decide ((300 : Int) < (ps.length : Int)) = false := decide_eq_false (by omega)
        by_cases g2 : 300 < rs.length
        · have e2 : decide ((300 : Int) < (rs.length : Int)) = true := decide_eq_true (by omega)
          clear g1 g2
          go_wp2_with fail
          go_ret
          exact ⟨rfl, HBW.out⟩
        · have e2 : decide ((300 : Int) < (rs.length : Int)) = false := decide_eq_false (by omega)
          have CO := Aside0.mk (one_any (hP.out.below HB4.out) hsm (Nat.le_trans hz.out HB4.out.size) HBW.out h0 h1 (by have := hl.out; omega) (by have := hl.out; omega) (by have := hl.out; omega) (by have := hl.out; omega) what n1 at_ HD.out.w0 HD.out.w1 inst fn ans lo hi has ty mu v HD.out.cP HD.out.lP (by omega) HD.out.cR HD.out.lR (by omega))
          clear g1 g2
          go_wp2_with (go_at_call 20; (refine CO.out.mono ?_); rintro e w5 ⟨rfl, hD5⟩; have HD5 := Aside0.mk hD5; clear hD5)
          obtain ⟨⟨F1, L1, N1, G1, hP5, l1, l2, l3, l4⟩, hB5⟩ := HD5.out
          have hl0 := hl.out
          have hl5 : F1.length ≤ i + 1 ∧ L1.length ≤ i + 1 ∧ N1.length ≤ i + 1 ∧ G1.length ≤ i + 1 := by omega
          have HP5 := Aside0.mk hP5
          have HL5 := Aside0.mk hl5
          have HB5 := Aside0.mk (HBW.out.trans hB5)
          have HZ5 := Aside0.mk (Nat.le_trans (Nat.le_trans hz.out HB4.out.size) hB5.size)
          clear hP5 hl5 hB5 hl0 l1 l2 l3 l4 HD5
          go_roundg k2
          case measure => omega
          case rel => exact ⟨i + 1, F1, L1, N1, G1, (by first | rfl | (rw [← hw1]; rfl) | (simp; done) | (simp [*]; done)), by omega, HP5, HL5, HB5, HZ5⟩
    | zero =>
      have hl0 := hl.out
      have CA := Aside0.mk (alike hP.out hB.out (by omega) (by omega) (by omega) (by omega))
      clear hl0
      by_cases g : i < ns
      · have dns : decide ((i : Int) < (ns : Int)) = true := decide_eq_true (by omega)
        have d60 : decide ((i : Int) < (60 : Int)) = false := decide_eq_false (by omega)
        have dn2 : (i < ns) = True := eq_true g
        have d61 : ((i : Int) < 60) = False := eq_false (by omega)
        clear hi g
        go_wp2_with (go_at_call 21; (refine CA.out.mono ?_); rintro e w5 ⟨rfl, hB5⟩; have HB5 := Aside0.mk hB5; clear hB5)
        go_ret
        exact ⟨rfl, hB.out.trans (below_mono HB5.out hB.out.size)⟩
      · have dns : decide ((i : Int) < (ns : Int)) = false := decide_eq_false (by omega)
        have dn2 : (i < ns) = False := eq_false g
        clear hi g
        go_wp2_with (go_at_call 21; (refine CA.out.mono ?_); rintro e w5 ⟨rfl, hB5⟩; have HB5 := Aside0.mk hB5; clear hB5)
        go_ret
        exact ⟨rfl, hB.out.trans (below_mono HB5.out hB.out.size)⟩
end Go.Proofs.Ytbelijoggbblgaa.Sp
