import Derived.Test.YtefihkcmlmapoaaMem21
namespace Go.Proofs.Ytefihkcmlmapoaa.Mem
open Go.RowKit Go.Proofs.YtefihkcmlmapoaaW.PrintWords Go.Proofs.YtefihkcmlmapoaaW.PrintLast Go.Proofs.YtefihkcmlmapoaaW.PrintMore Go.Proofs.Ytefihkcmlmapoaa.PMemHalves
set_option linter.unusedVariables false
set_option linter.unusedSimpArgs false
theorem Mm.below {w w' : World} {base : Nat} {ty : TypeId} {g : Nat} {A : Option Addr} {n c : Nat} {xs : List Int} {most : Int} (h : Mm w base ty g A n c xs most) (hB : Below w.heap.size w w') : Mm w' base ty g A n c xs most :=
  h.kept (grown_of_below hB none) (by simp) (by cases hb : blk A <;> simp)
theorem Bs.below {w w' : World} {base : Nat} {A : Option Addr} {n c : Nat} {xs : List Int} (h : Bs w base A n c xs) (hB : Below w.heap.size w w') : Bs w' base A n c xs :=
  h.kept (grown_of_below hB none) (by cases hb : blk A <;> simp)
theorem Bs.drew {w : World} {base : Nat} {A : Option Addr} {n c : Nat} {xs : List Int} (h : Bs w base A n c xs) : Bs w.drew base A n c xs := ⟨h.len, h.own⟩
/-- A slice of bytes as a text. -/
theorem Bs.str {w : World} {base : Nat} {A : Option Addr} {n c : Nat} {xs : List Int} (h : Bs w base A n c xs) : (convert 40 9 (.slice A n c)).run Try.prog w = .ok (.string (strOfNums xs)) w := by
  rcases h.cases with ⟨rfl, rfl, rfl, rfl⟩ | ⟨b, rfl, _, _⟩
  · rw [run_convert_bytes_nil w 40 5 Try.underlying40 Try.underlying5 0 0 9 Try.underlying9]
    rfl
  · exact run_convert_bytes_arg w 40 5 Try.underlying40 Try.underlying5 b 0 n c xs h.len (fun i hi => by rw [Nat.zero_add]; exact h.cell i hi) 9 Try.underlying9
/-- .. in that world and behind any draws. -/
theorem Bs.strs {w : World} {base : Nat} {A : Option Addr} {n c : Nat} {xs : List Int} (h : Bs w base A n c xs) : (convert 40 9 (.slice A n c)).run Try.prog w = .ok (.string (strOfNums xs)) w ∧ (convert 40 9 (.slice A n c)).run Try.prog w.drew = .ok (.string (strOfNums xs)) w.drew ∧
    ∀ k, (convert 40 9 (.slice A n c)).run Try.prog (w.drewN k) = .ok (.string (strOfNums xs)) (w.drewN k) := ⟨h.str, h.drew.str, fun k => (h.drewN k).str⟩
/-- One deed of a script that came in. -/
def DeedAt (W : World) (base : Nat) (d : Addr) : Prop := ∃ (what N at_ v : Int) (B : Option Addr) (nb cb : Nat) (zs : List Int), (-9223372036854775808 ≤ what ∧ what < 9223372036854775808) ∧ (0 ≤ at_ ∧ at_ < 18446744073709551616) ∧ (0 ≤ v ∧ v < 18446744073709551616) ∧
  d.block < base ∧ W.cell? d = some (.int .i64 what) ∧ W.cell? ⟨d.block, d.off + 1, none⟩ = some (.int .i64 N) ∧ W.cell? ⟨d.block, d.off + 2, none⟩ = some (.int .u64 at_) ∧ W.cell? ⟨d.block, d.off + 3, none⟩ = some (.int .u64 v) ∧ W.cell? ⟨d.block, d.off + 4, none⟩ = some (.slice B nb cb) ∧
  zs.length = nb ∧ (∀ x ∈ zs, 0 ≤ x ∧ x < 256) ∧ SrcOld W base B zs
theorem DeedAt.below {W w : World} {base : Nat} {d : Addr} (h : DeedAt W base d) (hB : Below base W w) : DeedAt w base d := by
  obtain ⟨what, N, at_, v, B, nb, cb, zs, h1, h2, h3, hb, q0, q1, q2, q3, q4, hz, hr, hs⟩ := h
  exact ⟨what, N, at_, v, B, nb, cb, zs, h1, h2, h3, hb, (hB.cell hb).trans q0, (hB.cell (p := ⟨d.block, d.off + 1, none⟩) hb).trans q1, (hB.cell (p := ⟨d.block, d.off + 2, none⟩) hb).trans q2, (hB.cell (p := ⟨d.block, d.off + 3, none⟩) hb).trans q3, (hB.cell (p := ⟨d.block, d.off + 4, none⟩) hb).trans q4, hz, hr, hs.below hB⟩
def Script (W : World) (S : Option Addr) (ns : Nat) : Prop := ∀ i, i < ns → ∃ ad : Addr, S = some ad ∧ DeedAt W W.heap.size (ad.add (i * 5))
set_option maxHeartbeats 4000000 in
theorem plays_no (w : World) (lo hi : Int) (has : Bool) (S : Option Addr) (ns cs : Nat) (h : ¬ may lo hi has) :
    Calls Try.prog 6 #[.agg #[.int .i64 lo, .int .i64 hi, .bool has], .slice S ns cs] w fun e w' => e = .returned (.bool true) ∧ Below w.heap.size w w' := by
  have hm := may_n h
  go_enter Try.func6, Try.ntmps6
  go_wp2_with (first | (go_at_call 8; (refine (up_lim _ _).mono ?_); rintro e w1 ⟨rfl, hR1, hB1⟩; have q0 := hR1.cell 0; have q1 := hR1.cell 1; have q2 := hR1.cell 2; simp only [List.getElem?_toArray, List.getElem?_cons_zero, List.getElem?_cons_succ] at q0 q1 q2) | (go_at_call 9; (refine (grommetref15_May.calls lo hi has false _ hm).mono ?_); rintro e w3 ⟨rfl, hB3⟩))
  go_ret
  exact ⟨rfl, below_then hB1 hB1.size hB3⟩
set_option maxHeartbeats 8000000 in
theorem plays_yes (w : World) (lo hi : Int) (has : Bool) (S : Option Addr) (ns cs : Nat) (hns : ns ≤ cs) (hns2 : ns ≤ 9223372036854775807) (hscr : Script w S ns) (h : may lo hi has) :
    Calls Try.prog 6 #[.agg #[.int .i64 lo, .int .i64 hi, .bool has], .slice S ns cs] w fun e w' => e = .returned (.bool true) ∧ Below w.heap.size w w' := by
  have hm := may_t h
  have h0 := h.1
  have h1 := h.2.1
  obtain ⟨most, hmost⟩ : ∃ most, most = (if has = true then hi else 16) := ⟨_, rfl⟩
  obtain ⟨n, hn⟩ : ∃ n, n = (lo * 256).toNat := ⟨_, rfl⟩
  have hn1 : (n : Int) / 256 ≤ most := by
    have := h.2.2
    rw [hmost]
    split
    · have := this (by assumption)
      omega
    · omega
  have hmo2 : most ≤ 16 := by
    have := h.2.2
    rw [hmost]
    split
    · have := this (by assumption)
      omega
    · omega
  have hn2 : n % 256 = 0 := by omega
  have nw : ∀ W : World, Calls Try.prog 10 #[.agg #[.int .i64 lo, .int .i64 hi, .bool has]] W (MNew W most n) := fun W => by rw [hmost, hn]; exact mnew W lo hi has h
  have rn : ∀ W : World, Calls Try.prog 13 #[.agg #[.int .i64 lo, .int .i64 hi, .bool has]] W (RNew W most n) := fun W => by rw [hmost, hn]; exact rnew W lo hi has h0 h1
  have NW := Aside0.mk nw
  have RN := Aside0.mk rn
  have N1 := Aside0.mk hn1
  have N2 := Aside0.mk hn2
  have MO := Aside0.mk hmo2
  have HS := Aside0.mk hscr
  clear hn hmost hn1 hn2 nw rn h h0 h1 hmo2 hscr
  go_enter Try.func6, Try.ntmps6
  go_wp2_with (first | (go_at_call 8; (refine (up_lim _ _).mono ?_); rintro e w1 ⟨rfl, hR1, hB1⟩; have q0 := hR1.cell 0; have q1 := hR1.cell 1; have q2 := hR1.cell 2; simp only [List.getElem?_toArray, List.getElem?_cons_zero, List.getElem?_cons_succ] at q0 q1 q2) | (go_at_call 9; (refine (grommetref15_May.calls lo hi has true _ hm).mono ?_); rintro e w2 ⟨rfl, hB2⟩; have hR2 := hR1.below hB2 hR1.lt; have hB12 := below_then hB1 hB1.size hB2; clear q0 q1 q2 hR1 hB1 hB2; have q0 := hR2.cell 0; have q1 := hR2.cell 1; have q2 := hR2.cell 2; simp only [List.getElem?_toArray, List.getElem?_cons_zero, List.getElem?_cons_succ] at q0 q1 q2) | (go_at_call 10; (refine (NW.out _).mono ?_); rintro e w3 ⟨g, A, c, rfl, hM3, hB3⟩; have hR3 := hR2.below hB3 hR2.lt; have hB13 := below_then hB12 hB12.size hB3; clear q0 q1 q2 hR2;  have q0 := hR3.cell 0; have q1 := hR3.cell 1; have q2 := hR3.cell 2; simp only [List.getElem?_toArray, List.getElem?_cons_zero, List.getElem?_cons_succ] at q0 q1 q2) | (go_at_call 13; (refine (RN.out _).mono ?_); rintro e w4 ⟨g', A', c', rfl, hX4, hB4⟩; have hM4 := hM3.below hB4; have hB14 := below_then hB13 hB13.size hB4; clear q0 q1 q2 hR3))
  have hT4 : Two w4 w.heap.size g A c g' A' c' n (List.replicate n 0) most := ⟨hM4.mono hB12.size, hX4.mono hB13.size, fun i hi hj => by have e1 := (blk_ge hM3 hi).2; have e2 := (blk_ge hX4 hj).1; omega⟩
  have HT4 := Aside0.mk hT4
  have HB14 := Aside0.mk hB14
  clear hM3 hX4 hM4 hB3 hB4 hB12 hB13 hT4 hB14
  go_loopg [10, 11] (min ns 100) (fun kq v10 v11 w' => ∃ (j : Nat), v10 = .int .i64 j ∧ j + kq = min ns 100 ∧ Alike w4 w.heap.size g g' most (.returned (.bool true)) w')
  case atStart => exact ⟨0, rfl, by omega, rfl, A, c, A', c', n, List.replicate n 0, HT4.out, N2.out, N1.out, Below.refl _ _⟩
  case round =>
    obtain ⟨j, rfl, hj, _, A1, c1, A2, c2, n1, xs1, hT, hn3, hm3, hB⟩ := hrel
    cases gk with
    | zero =>
      have hend : decide ((j : Int) < (ns : Int)) = true ∧ decide ((j : Int) < 100) = false ∨ (decide ((j : Int) < (ns : Int)) = false ∧ decide (j < ns) = false) := by
        simp only [decide_eq_true_eq, decide_eq_false_iff_not]; omega
      have HT := Aside0.mk hT
      have x0 := hT.x.row.cell 0
      have l1 := hT.x.row.lt
      simp only [List.getElem?_toArray, List.getElem?_cons_zero] at x0
      have k4 := hT.x.bs.strs
      have hlen : n1 ≤ 65536 := by have := MO.out; omega
      have HL := Aside0.mk hlen
      have HB := Aside0.mk (HB14.out.trans hB)
      clear hT hB hlen NW RN hm hj
      rcases hend with ⟨e1, e2⟩ | ⟨e1, e2⟩
      · have e3 : decide (j < ns) = true := by simpa using e1
        go_wp2
        go_region_with (go_at_call 16; (refine (bytes_calls (by first | exact HT.out.m.drew | exact HT.out.m.drewN _) HL.out).mono ?_); rintro e w7 ⟨A7, c7, rfl, hBs7, hB7⟩; have z0 := (hB7.cell (p := ⟨g', 0, none⟩) l1).trans x0; have k7 := hBs7.strs; have k8' : Bs w7 w.heap.size A2 n1 c2 xs1 := (by first | exact HT.out.x.bs.drew.below hB7 | exact (HT.out.x.bs.drewN _).below hB7); have k8 := k8'.strs)
        all_goals (go_wp2; go_ret)
        all_goals (refine ⟨?_, ?_⟩)
        all_goals first | exact below_step HB.out.drew hB7 | exact below_step (pw_below_drewN HB.out _) hB7 | exact pw_below_drewN (below_step HB.out.drew hB7) _ | (simp [Act.put]; done) | rfl
      · skip
        go_wp2
        go_region_with (go_at_call 16; (refine (bytes_calls (by first | exact HT.out.m.drew | exact HT.out.m.drewN _) HL.out).mono ?_); rintro e w7 ⟨A7, c7, rfl, hBs7, hB7⟩; have z0 := (hB7.cell (p := ⟨g', 0, none⟩) l1).trans x0; have k7 := hBs7.strs; have k8' : Bs w7 w.heap.size A2 n1 c2 xs1 := (by first | exact HT.out.x.bs.drew.below hB7 | exact (HT.out.x.bs.drewN _).below hB7); have k8 := k8'.strs)
        all_goals (go_wp2; go_ret)
        all_goals (refine ⟨?_, ?_⟩)
        all_goals first | exact below_step HB.out.drew hB7 | exact below_step (pw_below_drewN HB.out _) hB7 | exact pw_below_drewN (below_step HB.out.drew hB7) _ | (simp [Act.put]; done) | rfl
    | succ k2 =>
      have d1 : decide ((j : Int) < (ns : Int)) = true := decide_eq_true (by omega)
      have d3 : decide (j < ns) = true := decide_eq_true (by omega)
      have d2 : decide ((j : Int) < 100) = true := decide_eq_true (by omega)
      obtain ⟨ad, rfl, hd⟩ := HS.out j (by omega)
      obtain ⟨what, N, at_, v, B, nb, cb, zs, wh, at2, v2, hbl, q0, q1, q2, q3, q4, hz, hzr, hsrc⟩ := hd.below (HB14.out.trans hB)
      have ho := one_calls hT hn3 hm3 MO.out (Nat.le_trans HB14.out.size hB.size) what N at_ v B nb cb wh.1 wh.2 at2.1 at2.2 v2.1 v2.2 zs hz hzr hsrc
      have HO := Aside0.mk ho
      have HB := Aside0.mk hB
      clear ho hT hB hz hzr hsrc hd NW RN hm HT4
      go_wp2_with (go_at_call 18; (refine HO.out.mono ?_); rintro e w5 ⟨rfl, A3, c3, A4, c4, n2, xs2, hT2, hn4, hm4, hB2⟩; have x0 := hT2.x.row.cell 0; simp only [List.getElem?_toArray, List.getElem?_cons_zero] at x0)
      have l1 := hT2.m.row
      have hlen2 : n2 ≤ 65536 := by have := MO.out; omega
      have HT2 := Aside0.mk hT2
      have HB2 := Aside0.mk hB2
      have HN4 := Aside0.mk hn4
      have HM4 := Aside0.mk hm4
      have HL2 := Aside0.mk hlen2
      have hc1 : IntKind.i64.wrap ((n2 : Int) / 256) = (n2 : Int) / 256 := by rw [IntKind.wrap_i64]; omega
      have hc2 : ((n2 : Int) / 256 != (n2 : Int) / 256) = false := by simp
      clear hT2 hB2 hn4 hm4 hlen2 l1
      go_region_held3 (fun w' => w'.cell? ⟨g', 0, none⟩ = some (.slice A4 n2 c4))
        (first | (simp; assumption) | assumption)
        ((go_at_call 14; (refine (pages_calls (by exact HT2.out.m.row) HL2.out).mono ?_); rintro e w6 ⟨rfl, ⟨nd6, rfl⟩⟩))
      all_goals go_wp2
      all_goals go_roundg k2
      case measure => omega
      case rel => exact ⟨j + 1, by simp, by omega, rfl, A3, c3, A4, c4, n2, xs2, HT2.out.drewN _, HN4.out, HM4.out, pw_below_drewN (HB.out.trans HB2.out) _⟩
theorem plays (w : World) (lo hi : Int) (has : Bool) (S : Option Addr) (ns cs : Nat) (hns : ns ≤ cs) (hns2 : ns ≤ 9223372036854775807) (hscr : Script w S ns) :
    Calls Try.prog 6 #[.agg #[.int .i64 lo, .int .i64 hi, .bool has], .slice S ns cs] w fun e w' => e = .returned (.bool true) ∧ Below w.heap.size w w' := by
  by_cases h : may lo hi has
  · exact plays_yes w lo hi has S ns cs hns hns2 hscr h
  · exact plays_no w lo hi has S ns cs h
end Go.Proofs.Ytefihkcmlmapoaa.Mem
