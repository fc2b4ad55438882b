import Derived.Test.YtefihkcmlmapoaaMem18
namespace Go.Proofs.Ytefihkcmlmapoaa.Mem
open Go.RowKit Go.Proofs.YtefihkcmlmapoaaW.PrintWords Go.Proofs.YtefihkcmlmapoaaW.PrintLast Go.Proofs.YtefihkcmlmapoaaW.PrintMore Go.Proofs.Ytefihkcmlmapoaa.PMemHalves
set_option linter.unusedVariables false
set_option linter.unusedSimpArgs false
theorem Mm.below {w w' : World} {base : Nat} {ty : TypeId} {g : Nat} {A : Option Addr} {n c : Nat} {xs : List Int} {most : Int} (h : Mm w base ty g A n c xs most) (hB : Below w.heap.size w w') : Mm w' base ty g A n c xs most :=
  h.kept (grown_of_below hB none) (by simp) (by cases hb : blk A <;> simp)
theorem Bs.below {w w' : World} {base : Nat} {A : Option Addr} {n c : Nat} {xs : List Int} (h : Bs w base A n c xs) (hB : Below w.heap.size w w') : Bs w' base A n c xs :=
  h.kept (grown_of_below hB none) (by cases hb : blk A <;> simp)
theorem Bs.drew {w : World} {base : Nat} {A : Option Addr} {n c : Nat} {xs : List Int} (h : Bs w base A n c xs) : Bs w.drew base A n c xs := ⟨h.len, h.own⟩
theorem Mm.drew {w : World} {base : Nat} {ty : TypeId} {g : Nat} {A : Option Addr} {n c : Nat} {xs : List Int} {most : Int} (h : Mm w base ty g A n c xs most) : Mm w.drew base ty g A n c xs most := ⟨h.len, h.lo, h.row, h.own, h.rng⟩
/-- A slice of bytes as a text. -/
theorem Bs.str {w : World} {base : Nat} {A : Option Addr} {n c : Nat} {xs : List Int} (h : Bs w base A n c xs) : (convert 40 9 (.slice A n c)).run Try.prog w = .ok (.string (strOfNums xs)) w := by
  rcases h.cases with ⟨rfl, rfl, rfl, rfl⟩ | ⟨b, rfl, _, _⟩
  · rw [run_convert_bytes_nil w 40 5 Try.underlying40 Try.underlying5 0 0 9 Try.underlying9]
    rfl
  · exact run_convert_bytes_arg w 40 5 Try.underlying40 Try.underlying5 b 0 n c xs h.len (fun i hi => by rw [Nat.zero_add]; exact h.cell i hi) 9 Try.underlying9
/-- .. in that world and behind any draws. -/
theorem Bs.strs {w : World} {base : Nat} {A : Option Addr} {n c : Nat} {xs : List Int} (h : Bs w base A n c xs) : (convert 40 9 (.slice A n c)).run Try.prog w = .ok (.string (strOfNums xs)) w ∧ (convert 40 9 (.slice A n c)).run Try.prog w.drew = .ok (.string (strOfNums xs)) w.drew ∧
    ∀ k, (convert 40 9 (.slice A n c)).run Try.prog (w.drewN k) = .ok (.string (strOfNums xs)) (w.drewN k) := ⟨h.str, h.drew.str, fun k => (h.drewN k).str⟩
set_option maxHeartbeats 8000000 in
theorem memnew_yes (w : World) (lo hi : Int) (has : Bool) (h : may lo hi has) :
    Calls Try.prog 4 #[.agg #[.int .i64 lo, .int .i64 hi, .bool has]] w fun e w' => e = .returned (.bool true) ∧ Below w.heap.size w w' := by
  have hm := may_t h
  have h0 := h.1
  have h1 := h.2.1
  obtain ⟨most, hmost⟩ : ∃ most, most = (if has = true then hi else 16) := ⟨_, rfl⟩
  obtain ⟨n, hn⟩ : ∃ n, n = (lo * 256).toNat := ⟨_, rfl⟩
  have hn1 : (n : Int) / 256 = lo := by omega
  have hn2 : n ≤ 4096 := by omega
  have nw : ∀ W : World, Calls Try.prog 10 #[.agg #[.int .i64 lo, .int .i64 hi, .bool has]] W (MNew W most n) := fun W => by rw [hmost, hn]; exact mnew W lo hi has h
  have rn : ∀ W : World, Calls Try.prog 13 #[.agg #[.int .i64 lo, .int .i64 hi, .bool has]] W (RNew W most n) := fun W => by rw [hmost, hn]; exact rnew W lo hi has h0 h1
  have N1 := Aside0.mk hn1
  have hn4096 := Aside0.mk (show n ≤ 65536 by omega)
  have NW := Aside0.mk nw
  have RN := Aside0.mk rn
  clear hn hmost hn1 nw rn h
  obtain ⟨xs, hxs⟩ : ∃ xs, xs = List.replicate n (0 : Int) := ⟨_, rfl⟩
  have HX := Aside0.mk hxs
  clear hxs
  go_enter Try.func4, Try.ntmps4
  go_wp2_with (first | (go_at_call 8; (refine (up_lim _ _).mono ?_); rintro e w1 ⟨rfl, hR1, hB1⟩; have q0 := hR1.cell 0; have q1 := hR1.cell 1; have q2 := hR1.cell 2; simp only [List.getElem?_toArray, List.getElem?_cons_zero, List.getElem?_cons_succ] at q0 q1 q2) | (go_at_call 10; (refine (NW.out _).mono ?_); rintro e w2 ⟨g, A, c, rfl, hM2, hB2⟩; have hR2 := hR1.below hB2 hR1.lt; have hB12 := below_then hB1 hB1.size hB2; clear q0 q1 q2 hR1 hB1 hB2; have q0 := hR2.cell 0; have q1 := hR2.cell 1; have q2 := hR2.cell 2; simp only [List.getElem?_toArray, List.getElem?_cons_zero, List.getElem?_cons_succ] at q0 q1 q2) | (go_at_call 9; (refine (grommetref15_May.calls lo hi has true _ hm).mono ?_); rintro e w3 ⟨rfl, hB3⟩; have hR3 := hR2.below hB3 hR2.lt; have hM3 := hM2.below hB3; have hB13 := below_then hB12 hB12.size hB3; clear q0 q1 q2 hR2 hM2 hB12 hB3;  have q0 := hR3.cell 0; have q1 := hR3.cell 1; have q2 := hR3.cell 2; simp only [List.getElem?_toArray, List.getElem?_cons_zero, List.getElem?_cons_succ] at q0 q1 q2) | (go_at_call 13; (refine (RN.out _).mono ?_); rintro e w4 ⟨g', A', c', rfl, hX4, hB4⟩; have hR4 := hR3.below hB4 hR3.lt; have hM4 := hM3.below hB4; have hB14 := below_then hB13 hB13.size hB4; clear q0 q1 q2 hR3 hM3 hB13 hB4; have q0 := hR4.cell 0; have q1 := hR4.cell 1; have q2 := hR4.cell 2; simp only [List.getElem?_toArray, List.getElem?_cons_zero, List.getElem?_cons_succ] at q0 q1 q2))
  have x0 := hX4.row.cell 0
  have x1 := hX4.row.cell 1
  simp only [List.getElem?_toArray, List.getElem?_cons_zero, List.getElem?_cons_succ] at x0 x1
  have k4 := hX4.bs.strs
  clear NW RN HX hm h0 h1 hn2
  have hcmp : ((n : Int) / 256 == lo) = true := by rw [N1.out]; simp
  have l0 := hR4.lt
  have l1 := hX4.row.lt
  go_region_with (first | (go_at_call 14; (refine (pages_calls (by exact hM4.row) (hn4096.out)).mono ?_); rintro e w5 ⟨rfl, ⟨nd5, rfl⟩⟩) | (go_at_call 15; (refine (most_calls (by exact hM4.row)).mono ?_); rintro e w6 ⟨rfl, ⟨nd6, rfl⟩⟩) | (go_at_call 16; (refine (bytes_calls (by first | exact hM4.drew | exact hM4.drewN _ | exact (hM4.drewN _).drew | exact hM4.drew.drewN _) hn4096.out).mono ?_); rintro e w7 ⟨A7, c7, rfl, hBs7, hB7⟩; have z0 := (hB7.cell (p := ⟨g', 0, none⟩) l1).trans x0; have k7 := hBs7.strs; have k8 := ((hX4.bs.drewN _).below hB7).strs))
  all_goals (go_wp2; go_ret)
  all_goals (refine ⟨?_, ?_⟩)
  all_goals first | exact below_step (pw_below_drewN hB14 _) hB7 | exact pw_below_drewN (below_step (pw_below_drewN hB14 _) hB7) _ | (simp [Act.put]; done) | rfl

end Go.Proofs.Ytefihkcmlmapoaa.Mem
