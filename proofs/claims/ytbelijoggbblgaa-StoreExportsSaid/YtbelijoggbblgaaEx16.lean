/- StoreExports: whatever a module, a list, a number and a name are, true. Printed by the program mkex16.py. -/
import Derived.Test.YtbelijoggbblgaaEx14
import Derived.Test.YtbelijoggbblgaaEx15
namespace Go.Proofs.Ytbelijoggbblgaa.Ex
open Go.RowKit Go.Proofs.YtbelijoggbblgaaW.PrintWords Go.Proofs.YtbelijoggbblgaaW.PrintLast Go.Proofs.Ytbelijoggbblgaa.RStoreExports
set_option linter.unusedVariables false
set_option linter.unusedSimpArgs false
set_option maxHeartbeats 8000000 in
set_option maxRecDepth 100000 in
theorem exports {n : Nat} (W : World) {m : S61} {cs : List Value} (hm : k61.K W m cs) (hb : Bm n m) {L : Option Addr} {lc : Nat} {l : List Int} (gl : (Kd.int .i64).C W L l.length l) (ll : l.length ≤ lc) (kl : l.length * 8 ≤ 140737488351232) (inst : Int) (name : ByteArray) (hz : name.size ≤ 9223372036854775807) :
    Calls Try.prog 4 #[.agg cs.toArray, .slice L l.length lc, .int .i64 inst, .string name] W fun e w' => e = .returned (.bool true) ∧ Below W.heap.size W w' := by
  obtain ⟨A0, a0, A1, a1, A2, a2, A3, a3, A4, a4, A5, a5, A6, a6, A8, a8, A9, a9, A10, a10, rfl, l0, g0, l1, g1, l2, g2, l3, g3, l4, g4, l5, g5, l6, g6, l8, g8, l9, g9, l10, g10⟩ := k61_open hm
  have HKM := Aside0.mk hm; have HBm := Aside0.mk hb; have GL := Aside0.mk gl; have LL := Aside0.mk ll; have KL := Aside0.mk kl
  have G6 := Aside0.mk g6
  have HKX := Aside0.mk (show k64.K W (⟨m, l, l, [], l⟩ : S64) [.slice A0 m.f0.length a0, .slice A1 m.f1.length a1, .slice A2 m.f2.length a2, .slice A3 m.f3.length a3, .slice A4 m.f4.length a4, .slice A5 m.f5.length a5, .slice A6 m.f6.length a6, .int .i64 m.f7, .slice A8 m.f8.length a8, .slice A9 m.f9.length a9, .slice A10 m.f10.length a10, .slice L l.length lc, .slice L l.length lc, .slice none 0 0, .slice L l.length lc] from k64_mk W (⟨m, l, l, [], l⟩ : S64) l0 g0 l1 g1 l2 g2 l3 g3 l4 g4 l5 g5 l6 g6 l8 g8 l9 g9 l10 g10 ll gl ll gl (Nat.le_refl 0) (Kd.C_nil _ _) ll gl)
  clear hm hb gl ll kl l0 g0 l1 g1 l2 g2 l3 g3 l4 g4 l5 g5 l6 g6 l8 g8 l9 g9 l10 g10
  obtain ⟨w1, hw1⟩ : ∃ w1, w1 = W.alloc (.cells #[.slice A0 m.f0.length a0, .slice A1 m.f1.length a1, .slice A2 m.f2.length a2, .slice A3 m.f3.length a3, .slice A4 m.f4.length a4, .slice A5 m.f5.length a5, .slice A6 m.f6.length a6, .int .i64 m.f7, .slice A8 m.f8.length a8, .slice A9 m.f9.length a9, .slice A10 m.f10.length a10] 61) := ⟨_, rfl⟩
  have HB := Aside0.mk (show Below W.heap.size W w1 by rw [hw1]; exact below_alloc (Below.refl _ _) _)
  have HX := Aside0.mk (show Row w1 W.heap.size 61 #[.slice A0 m.f0.length a0, .slice A1 m.f1.length a1, .slice A2 m.f2.length a2, .slice A3 m.f3.length a3, .slice A4 m.f4.length a4, .slice A5 m.f5.length a5, .slice A6 m.f6.length a6, .int .i64 m.f7, .slice A8 m.f8.length a8, .slice A9 m.f9.length a9, .slice A10 m.f10.length a10] by rw [hw1]; exact St.Row.made _ _ _ rfl)
  have HW := Aside0.mk hw1
  clear hw1
  refine enterF [.agg #[.slice A0 m.f0.length a0, .slice A1 m.f1.length a1, .slice A2 m.f2.length a2, .slice A3 m.f3.length a3, .slice A4 m.f4.length a4, .slice A5 m.f5.length a5, .slice A6 m.f6.length a6, .int .i64 m.f7, .slice A8 m.f8.length a8, .slice A9 m.f9.length a9, .slice A10 m.f10.length a10], .slice L l.length lc, .int .i64 inst, .string name] Try.func4 rfl Try.ntmps4 (Nat.le_of_ble_eq_true rfl) ?_
  intro b HF
  refine wp_seq ?_
  refine wp_region_lit ?_
  refine listM rfl HF rfl (by decide) (v := .pointer (some ⟨W.heap.size, 0, none⟩)) (w1 := w1) (by have e0 : b.tmps[0]?.getD undef = .agg #[.slice A0 m.f0.length a0, .slice A1 m.f1.length a1, .slice A2 m.f2.length a2, .slice A3 m.f3.length a3, .slice A4 m.f4.length a4, .slice A5 m.f5.length a5, .slice A6 m.f6.length a6, .int .i64 m.f7, .slice A8 m.f8.length a8, .slice A9 m.f9.length a9, .slice A10 m.f10.length a10] := HF.at rfl; rw [HW.out]; go_simp) ?_
  clear HF b
  intro b HF
  refine listF rfl HF rfl (by decide) (v := .bool false) (by go_simp) ?_
  clear HF b
  intro b HF
  show Code.wp _ _ _ _ _
  replace HF := HF.sub [(4, .pointer (some ⟨W.heap.size, 0, none⟩)), (3, .string name), (2, .int .i64 inst), (1, .slice L l.length lc)] (List.forall_mem_cons.2 ⟨rfl, (List.forall_mem_cons.2 ⟨rfl, (List.forall_mem_cons.2 ⟨rfl, (List.forall_mem_cons.2 ⟨rfl, by intro p_ hp_; cases hp_⟩)⟩)⟩)⟩)
  clear HW
  refine wp_seq ?_
  refine wp_region_lit ?_
  refine listC rfl HF rfl (by decide) (fun K_ hK_ => ?_)
  go_simp
  refine (Sp.up_calls w1).mono ?_
  rintro e w2 ⟨rfl, hb_⟩
  replace HX := Aside0.mk (HX.out.below hb_ HX.out.lt)
  replace HB := Aside0.mk (HB.out.trans (St.below_mono hb_ HB.out.size))
  clear hb_
  refine hK_.out _ _ ?_
  clear hK_ K_ HF b
  intro b HF
  refine listF rfl HF rfl (by decide) (v := .bool true) (by have e21 : b.tmps[21]?.getD undef = .bool true := HF.at rfl; go_simp) ?_
  clear HF b
  intro b HF
  show Code.wp _ _ _ _ _
  refine wp_seq ?_
  refine wp_region_lit ?_
  refine listF rfl HF rfl (by decide) (v := .agg #[.slice A0 m.f0.length a0, .slice A1 m.f1.length a1, .slice A2 m.f2.length a2, .slice A3 m.f3.length a3, .slice A4 m.f4.length a4, .slice A5 m.f5.length a5, .slice A6 m.f6.length a6, .int .i64 m.f7, .slice A8 m.f8.length a8, .slice A9 m.f9.length a9, .slice A10 m.f10.length a10]) (by have e4 : b.tmps[4]?.getD undef = .pointer (some ⟨W.heap.size, 0, none⟩) := HF.at rfl; have c_0 : w2.cell? ⟨W.heap.size, 0, none⟩ = some (.slice A0 m.f0.length a0) := HX.out.cell 0; have c_1 : w2.cell? ⟨W.heap.size, 1, none⟩ = some (.slice A1 m.f1.length a1) := HX.out.cell 1; have c_2 : w2.cell? ⟨W.heap.size, 2, none⟩ = some (.slice A2 m.f2.length a2) := HX.out.cell 2; have c_3 : w2.cell? ⟨W.heap.size, 3, none⟩ = some (.slice A3 m.f3.length a3) := HX.out.cell 3; have c_4 : w2.cell? ⟨W.heap.size, 4, none⟩ = some (.slice A4 m.f4.length a4) := HX.out.cell 4; have c_5 : w2.cell? ⟨W.heap.size, 5, none⟩ = some (.slice A5 m.f5.length a5) := HX.out.cell 5; have c_6 : w2.cell? ⟨W.heap.size, 6, none⟩ = some (.slice A6 m.f6.length a6) := HX.out.cell 6; have c_7 : w2.cell? ⟨W.heap.size, 7, none⟩ = some (.int .i64 m.f7) := HX.out.cell 7; have c_8 : w2.cell? ⟨W.heap.size, 8, none⟩ = some (.slice A8 m.f8.length a8) := HX.out.cell 8; have c_9 : w2.cell? ⟨W.heap.size, 9, none⟩ = some (.slice A9 m.f9.length a9) := HX.out.cell 9; have c_10 : w2.cell? ⟨W.heap.size, 10, none⟩ = some (.slice A10 m.f10.length a10) := HX.out.cell 10; go_simp) ?_
  clear HF b
  intro b HF
  refine listC rfl HF rfl (by decide) (fun K_ hK_ => ?_)
  have e22 : b.tmps[22]?.getD undef = .agg #[.slice A0 m.f0.length a0, .slice A1 m.f1.length a1, .slice A2 m.f2.length a2, .slice A3 m.f3.length a3, .slice A4 m.f4.length a4, .slice A5 m.f5.length a5, .slice A6 m.f6.length a6, .int .i64 m.f7, .slice A8 m.f8.length a8, .slice A9 m.f9.length a9, .slice A10 m.f10.length a10] := HF.at rfl
  go_simp
  clear e22
  refine (Few_calls (k61.K_below HB.out HKM.out)).mono ?_
  rintro e w3 ⟨r, rfl, hb_⟩
  replace HX := Aside0.mk (HX.out.below hb_ HX.out.lt)
  replace HB := Aside0.mk (HB.out.trans (St.below_mono hb_ HB.out.size))
  clear hb_
  refine hK_.out _ _ ?_
  clear hK_ K_ HF b
  intro b HF
  refine listF rfl HF rfl (by decide) (v := .bool r) (by have e23 : b.tmps[23]?.getD undef = .bool r := HF.at rfl; go_simp) ?_
  clear HF b
  intro b HF
  show Code.wp _ _ _ _ _
  replace HF := HF.sub [(10, .bool r), (9, .bool true), (4, .pointer (some ⟨W.heap.size, 0, none⟩)), (3, .string name), (2, .int .i64 inst), (1, .slice L l.length lc)] (List.forall_mem_cons.2 ⟨rfl, (List.forall_mem_cons.2 ⟨rfl, (List.forall_mem_cons.2 ⟨rfl, (List.forall_mem_cons.2 ⟨rfl, (List.forall_mem_cons.2 ⟨rfl, (List.forall_mem_cons.2 ⟨rfl, by intro p_ hp_; cases hp_⟩)⟩)⟩)⟩)⟩)⟩)
  refine wp_seq ?_
  refine wp_seq ?_
  refine wp_region_lit ?_
  cases hr : r
  case false =>
    subst hr
    refine listF rfl HF rfl (by decide) (v := .bool false) (by have e10 : b.tmps[10]?.getD undef = .bool false := HF.at rfl; go_simp) ?_
    clear HF b
    intro b HF
    refine listF rfl HF rfl (by decide) (v := .bool true) (by have e24 : b.tmps[24]?.getD undef = .bool false := HF.at rfl; go_simp) ?_
    clear HF b
    intro b HF
    refine listF rfl HF rfl (by decide) (v := .bool true) (by have e25 : b.tmps[25]?.getD undef = .bool true := HF.at rfl; go_simp) ?_
    clear HF b
    intro b HF
    refine listO rfl HF rfl (by decide) ?_
    clear HF b
    intro b HF
    refine listO rfl HF rfl (by decide) ?_
    clear HF b
    intro b HF
    refine listO rfl HF rfl (by decide) ?_
    clear HF b
    intro b HF
    refine listF rfl HF rfl (by decide) (v := .bool true) (by have e26 : b.tmps[26]?.getD undef = .bool true := HF.at rfl; have e29 : b.tmps[29]?.getD undef = undef := HF.at rfl; go_simp) ?_
    clear HF b
    intro b HF
    refine listF rfl HF rfl (by decide) (v := .bool true) (by have e30 : b.tmps[30]?.getD undef = .bool true := HF.at rfl; go_simp) ?_
    clear HF b
    intro b HF
    refine listO rfl HF rfl (by decide) ?_
    clear HF b
    intro b HF
    refine listO rfl HF rfl (by decide) ?_
    clear HF b
    intro b HF
    refine listO rfl HF rfl (by decide) ?_
    clear HF b
    intro b HF
    refine listF rfl HF rfl (by decide) (v := .bool true) (by have e31 : b.tmps[31]?.getD undef = .bool true := HF.at rfl; have e34 : b.tmps[34]?.getD undef = undef := HF.at rfl; go_simp) ?_
    clear HF b
    intro b HF
    show Code.wp _ _ _ _ _
    refine wp_cond_true (HF.get rfl) ?_
    refine wp_seq ?_
    refine wp_region_lit ?_
    refine listF rfl HF rfl (by decide) (v := .bool true) (by have e9 : b.tmps[9]?.getD undef = .bool true := HF.at rfl; go_simp) ?_
    clear HF b
    intro b HF
    refine listF rfl HF rfl (by decide) (v := .bool true) (by have e36 : b.tmps[36]?.getD undef = .bool true := HF.at rfl; go_simp) ?_
    clear HF b
    intro b HF
    show Code.wp _ _ _ _ _
    refine wp_ret ?_
    try simp only [Exit.inBlock, Exit.then]
    exact bodyPost_ret (results_tmp rfl _ _ _) HF.none ⟨congrArg Ending.returned (HF.get (k := 8) rfl), HB.out⟩
  case true =>
    subst hr
    by_cases c1 : (l.length : Int) > 1000
    case pos =>
      refine listF rfl HF rfl (by decide) (v := .bool true) (by have e10 : b.tmps[10]?.getD undef = .bool true := HF.at rfl; go_simp) ?_
      clear HF b
      intro b HF
      refine listF rfl HF rfl (by decide) (v := .bool false) (by have e24 : b.tmps[24]?.getD undef = .bool true := HF.at rfl; go_simp) ?_
      clear HF b
      intro b HF
      refine listF rfl HF rfl (by decide) (v := .bool false) (by have e25 : b.tmps[25]?.getD undef = .bool false := HF.at rfl; go_simp) ?_
      clear HF b
      intro b HF
      refine listF rfl HF rfl (by decide) (v := .slice L l.length lc) (by have e1 : b.tmps[1]?.getD undef = .slice L l.length lc := HF.at rfl; go_simp) ?_
      clear HF b
      intro b HF
      refine listF rfl HF rfl (by decide) (v := .int .i64 (l.length : Int)) (by have e27 : b.tmps[27]?.getD undef = .slice L l.length lc := HF.at rfl; go_simp) ?_
      clear HF b
      intro b HF
      refine listF rfl HF rfl (by decide) (v := .bool true) (by have e28 : b.tmps[28]?.getD undef = .int .i64 (l.length : Int) := HF.at rfl; go_simp) ?_
      clear HF b
      intro b HF
      refine listF rfl HF rfl (by decide) (v := .bool true) (by have e26 : b.tmps[26]?.getD undef = .bool false := HF.at rfl; have e29 : b.tmps[29]?.getD undef = .bool true := HF.at rfl; go_simp) ?_
      clear HF b
      intro b HF
      refine listF rfl HF rfl (by decide) (v := .bool true) (by have e30 : b.tmps[30]?.getD undef = .bool true := HF.at rfl; go_simp) ?_
      clear HF b
      intro b HF
      refine listO rfl HF rfl (by decide) ?_
      clear HF b
      intro b HF
      refine listO rfl HF rfl (by decide) ?_
      clear HF b
      intro b HF
      refine listO rfl HF rfl (by decide) ?_
      clear HF b
      intro b HF
      refine listF rfl HF rfl (by decide) (v := .bool true) (by have e31 : b.tmps[31]?.getD undef = .bool true := HF.at rfl; have e34 : b.tmps[34]?.getD undef = undef := HF.at rfl; go_simp) ?_
      clear HF b
      intro b HF
      show Code.wp _ _ _ _ _
      refine wp_cond_true (HF.get rfl) ?_
      refine wp_seq ?_
      refine wp_region_lit ?_
      refine listF rfl HF rfl (by decide) (v := .bool true) (by have e9 : b.tmps[9]?.getD undef = .bool true := HF.at rfl; go_simp) ?_
      clear HF b
      intro b HF
      refine listF rfl HF rfl (by decide) (v := .bool true) (by have e36 : b.tmps[36]?.getD undef = .bool true := HF.at rfl; go_simp) ?_
      clear HF b
      intro b HF
      show Code.wp _ _ _ _ _
      refine wp_ret ?_
      try simp only [Exit.inBlock, Exit.then]
      exact bodyPost_ret (results_tmp rfl _ _ _) HF.none ⟨congrArg Ending.returned (HF.get (k := 8) rfl), HB.out⟩
    case neg =>
      by_cases c2 : (name.size : Int) > 1000
      case pos =>
        refine listF rfl HF rfl (by decide) (v := .bool true) (by have e10 : b.tmps[10]?.getD undef = .bool true := HF.at rfl; go_simp) ?_
        clear HF b
        intro b HF
        refine listF rfl HF rfl (by decide) (v := .bool false) (by have e24 : b.tmps[24]?.getD undef = .bool true := HF.at rfl; go_simp) ?_
        clear HF b
        intro b HF
        refine listF rfl HF rfl (by decide) (v := .bool false) (by have e25 : b.tmps[25]?.getD undef = .bool false := HF.at rfl; go_simp) ?_
        clear HF b
        intro b HF
        refine listF rfl HF rfl (by decide) (v := .slice L l.length lc) (by have e1 : b.tmps[1]?.getD undef = .slice L l.length lc := HF.at rfl; go_simp) ?_
        clear HF b
        intro b HF
        refine listF rfl HF rfl (by decide) (v := .int .i64 (l.length : Int)) (by have e27 : b.tmps[27]?.getD undef = .slice L l.length lc := HF.at rfl; go_simp) ?_
        clear HF b
        intro b HF
        refine listF rfl HF rfl (by decide) (v := .bool false) (by have e28 : b.tmps[28]?.getD undef = .int .i64 (l.length : Int) := HF.at rfl; go_simp) ?_
        clear HF b
        intro b HF
        refine listF rfl HF rfl (by decide) (v := .bool false) (by have e26 : b.tmps[26]?.getD undef = .bool false := HF.at rfl; have e29 : b.tmps[29]?.getD undef = .bool false := HF.at rfl; go_simp) ?_
        clear HF b
        intro b HF
        refine listF rfl HF rfl (by decide) (v := .bool false) (by have e30 : b.tmps[30]?.getD undef = .bool false := HF.at rfl; go_simp) ?_
        clear HF b
        intro b HF
        refine listF rfl HF rfl (by decide) (v := .string name) (by have e3 : b.tmps[3]?.getD undef = .string name := HF.at rfl; go_simp) ?_
        clear HF b
        intro b HF
        refine listF rfl HF rfl (by decide) (v := .int .i64 (name.size : Int)) (by have e32 : b.tmps[32]?.getD undef = .string name := HF.at rfl; go_simp) ?_
        clear HF b
        intro b HF
        refine listF rfl HF rfl (by decide) (v := .bool true) (by have e33 : b.tmps[33]?.getD undef = .int .i64 (name.size : Int) := HF.at rfl; go_simp) ?_
        clear HF b
        intro b HF
        refine listF rfl HF rfl (by decide) (v := .bool true) (by have e31 : b.tmps[31]?.getD undef = .bool false := HF.at rfl; have e34 : b.tmps[34]?.getD undef = .bool true := HF.at rfl; go_simp) ?_
        clear HF b
        intro b HF
        show Code.wp _ _ _ _ _
        refine wp_cond_true (HF.get rfl) ?_
        refine wp_seq ?_
        refine wp_region_lit ?_
        refine listF rfl HF rfl (by decide) (v := .bool true) (by have e9 : b.tmps[9]?.getD undef = .bool true := HF.at rfl; go_simp) ?_
        clear HF b
        intro b HF
        refine listF rfl HF rfl (by decide) (v := .bool true) (by have e36 : b.tmps[36]?.getD undef = .bool true := HF.at rfl; go_simp) ?_
        clear HF b
        intro b HF
        show Code.wp _ _ _ _ _
        refine wp_ret ?_
        try simp only [Exit.inBlock, Exit.then]
        exact bodyPost_ret (results_tmp rfl _ _ _) HF.none ⟨congrArg Ending.returned (HF.get (k := 8) rfl), HB.out⟩
      case neg =>
        refine listF rfl HF rfl (by decide) (v := .bool true) (by have e10 : b.tmps[10]?.getD undef = .bool true := HF.at rfl; go_simp) ?_
        clear HF b
        intro b HF
        refine listF rfl HF rfl (by decide) (v := .bool false) (by have e24 : b.tmps[24]?.getD undef = .bool true := HF.at rfl; go_simp) ?_
        clear HF b
        intro b HF
        refine listF rfl HF rfl (by decide) (v := .bool false) (by have e25 : b.tmps[25]?.getD undef = .bool false := HF.at rfl; go_simp) ?_
        clear HF b
        intro b HF
        refine listF rfl HF rfl (by decide) (v := .slice L l.length lc) (by have e1 : b.tmps[1]?.getD undef = .slice L l.length lc := HF.at rfl; go_simp) ?_
        clear HF b
        intro b HF
        refine listF rfl HF rfl (by decide) (v := .int .i64 (l.length : Int)) (by have e27 : b.tmps[27]?.getD undef = .slice L l.length lc := HF.at rfl; go_simp) ?_
        clear HF b
        intro b HF
        refine listF rfl HF rfl (by decide) (v := .bool false) (by have e28 : b.tmps[28]?.getD undef = .int .i64 (l.length : Int) := HF.at rfl; go_simp) ?_
        clear HF b
        intro b HF
        refine listF rfl HF rfl (by decide) (v := .bool false) (by have e26 : b.tmps[26]?.getD undef = .bool false := HF.at rfl; have e29 : b.tmps[29]?.getD undef = .bool false := HF.at rfl; go_simp) ?_
        clear HF b
        intro b HF
        refine listF rfl HF rfl (by decide) (v := .bool false) (by have e30 : b.tmps[30]?.getD undef = .bool false := HF.at rfl; go_simp) ?_
        clear HF b
        intro b HF
        refine listF rfl HF rfl (by decide) (v := .string name) (by have e3 : b.tmps[3]?.getD undef = .string name := HF.at rfl; go_simp) ?_
        clear HF b
        intro b HF
        refine listF rfl HF rfl (by decide) (v := .int .i64 (name.size : Int)) (by have e32 : b.tmps[32]?.getD undef = .string name := HF.at rfl; go_simp) ?_
        clear HF b
        intro b HF
        refine listF rfl HF rfl (by decide) (v := .bool false) (by have e33 : b.tmps[33]?.getD undef = .int .i64 (name.size : Int) := HF.at rfl; go_simp) ?_
        clear HF b
        intro b HF
        refine listF rfl HF rfl (by decide) (v := .bool false) (by have e31 : b.tmps[31]?.getD undef = .bool false := HF.at rfl; have e34 : b.tmps[34]?.getD undef = .bool false := HF.at rfl; go_simp) ?_
        clear HF b
        intro b HF
        show Code.wp _ _ _ _ _
        refine wp_cond_false (HF.get rfl) ?_
        refine wp_skip ?_
        show Code.wp _ _ _ _ _
        clear c1 c2 hz
        replace HF := HF.sub [(9, .bool true), (4, .pointer (some ⟨W.heap.size, 0, none⟩)), (3, .string name), (2, .int .i64 inst), (1, .slice L l.length lc)] (List.forall_mem_cons.2 ⟨rfl, (List.forall_mem_cons.2 ⟨rfl, (List.forall_mem_cons.2 ⟨rfl, (List.forall_mem_cons.2 ⟨rfl, (List.forall_mem_cons.2 ⟨rfl, by intro p_ hp_; cases hp_⟩)⟩)⟩)⟩)⟩)
        refine wp_seq ?_
        refine wp_region_lit ?_
        refine listC rfl HF rfl (by decide) (fun K_ hK_ => ?_)
        go_simp
        refine (Sp.new_calls w3).mono ?_
        rintro e w4 ⟨rfl, hr4, hb_, hs4⟩
        obtain ⟨s, hs⟩ : ∃ s, s = w3.heap.size := ⟨_, rfl⟩
        rw [← hs] at hr4 ⊢
        have HLs := Aside0.mk (show W.heap.size < s by rw [hs]; exact HX.out.lt)
        have HR := Aside0.mk hr4
        replace HX := Aside0.mk (HX.out.below hb_ HX.out.lt)
        replace HB := Aside0.mk (HB.out.trans (St.below_mono hb_ HB.out.size))
        clear hr4 hb_ hs4 hs
        refine hK_.out _ _ ?_
        clear hK_ K_ HF b
        intro b HF
        refine listF rfl HF rfl (by decide) (v := .pointer (some ⟨s, 0, none⟩)) (by have e37 : b.tmps[37]?.getD undef = .pointer (some ⟨s, 0, none⟩) := HF.at rfl; go_simp) ?_
        clear HF b
        intro b HF
        show Code.wp _ _ _ _ _
        refine wp_seq ?_
        refine wp_seq ?_
        refine wp_region_lit ?_
        refine listF rfl HF rfl (by decide) (v := .pointer (some ⟨s, 0, none⟩)) (by have e11 : b.tmps[11]?.getD undef = .pointer (some ⟨s, 0, none⟩) := HF.at rfl; go_simp) ?_
        clear HF b
        intro b HF
        refine listF rfl HF rfl (by decide) (v := .bool false) (by have e38 : b.tmps[38]?.getD undef = .pointer (some ⟨s, 0, none⟩) := HF.at rfl; go_simp) ?_
        clear HF b
        intro b HF
        show Code.wp _ _ _ _ _
        refine wp_cond_false (HF.get rfl) ?_
        refine wp_skip ?_
        show Code.wp _ _ _ _ _
        replace HF := HF.sub [(11, .pointer (some ⟨s, 0, none⟩)), (9, .bool true), (4, .pointer (some ⟨W.heap.size, 0, none⟩)), (3, .string name), (2, .int .i64 inst), (1, .slice L l.length lc)] (List.forall_mem_cons.2 ⟨rfl, (List.forall_mem_cons.2 ⟨rfl, (List.forall_mem_cons.2 ⟨rfl, (List.forall_mem_cons.2 ⟨rfl, (List.forall_mem_cons.2 ⟨rfl, (List.forall_mem_cons.2 ⟨rfl, by intro p_ hp_; cases hp_⟩)⟩)⟩)⟩)⟩)⟩)
        refine wp_seq ?_
        refine wp_region_lit ?_
        refine listF rfl HF rfl (by decide) (v := .agg #[.slice A0 m.f0.length a0, .slice A1 m.f1.length a1, .slice A2 m.f2.length a2, .slice A3 m.f3.length a3, .slice A4 m.f4.length a4, .slice A5 m.f5.length a5, .slice A6 m.f6.length a6, .int .i64 m.f7, .slice A8 m.f8.length a8, .slice A9 m.f9.length a9, .slice A10 m.f10.length a10]) (by have e4 : b.tmps[4]?.getD undef = .pointer (some ⟨W.heap.size, 0, none⟩) := HF.at rfl; have c_0 : w4.cell? ⟨W.heap.size, 0, none⟩ = some (.slice A0 m.f0.length a0) := HX.out.cell 0; have c_1 : w4.cell? ⟨W.heap.size, 1, none⟩ = some (.slice A1 m.f1.length a1) := HX.out.cell 1; have c_2 : w4.cell? ⟨W.heap.size, 2, none⟩ = some (.slice A2 m.f2.length a2) := HX.out.cell 2; have c_3 : w4.cell? ⟨W.heap.size, 3, none⟩ = some (.slice A3 m.f3.length a3) := HX.out.cell 3; have c_4 : w4.cell? ⟨W.heap.size, 4, none⟩ = some (.slice A4 m.f4.length a4) := HX.out.cell 4; have c_5 : w4.cell? ⟨W.heap.size, 5, none⟩ = some (.slice A5 m.f5.length a5) := HX.out.cell 5; have c_6 : w4.cell? ⟨W.heap.size, 6, none⟩ = some (.slice A6 m.f6.length a6) := HX.out.cell 6; have c_7 : w4.cell? ⟨W.heap.size, 7, none⟩ = some (.int .i64 m.f7) := HX.out.cell 7; have c_8 : w4.cell? ⟨W.heap.size, 8, none⟩ = some (.slice A8 m.f8.length a8) := HX.out.cell 8; have c_9 : w4.cell? ⟨W.heap.size, 9, none⟩ = some (.slice A9 m.f9.length a9) := HX.out.cell 9; have c_10 : w4.cell? ⟨W.heap.size, 10, none⟩ = some (.slice A10 m.f10.length a10) := HX.out.cell 10; go_simp) ?_
        clear HF b
        intro b HF
        refine listF rfl HF rfl (by decide) (v := .slice L l.length lc) (by have e1 : b.tmps[1]?.getD undef = .slice L l.length lc := HF.at rfl; go_simp) ?_
        clear HF b
        intro b HF
        refine listF rfl HF rfl (by decide) (v := .slice L l.length lc) (by have e1 : b.tmps[1]?.getD undef = .slice L l.length lc := HF.at rfl; go_simp) ?_
        clear HF b
        intro b HF
        refine listF rfl HF rfl (by decide) (v := .slice L l.length lc) (by have e1 : b.tmps[1]?.getD undef = .slice L l.length lc := HF.at rfl; go_simp) ?_
        clear HF b
        intro b HF
        refine listF rfl HF rfl (by decide) (v := .agg #[.slice A0 m.f0.length a0, .slice A1 m.f1.length a1, .slice A2 m.f2.length a2, .slice A3 m.f3.length a3, .slice A4 m.f4.length a4, .slice A5 m.f5.length a5, .slice A6 m.f6.length a6, .int .i64 m.f7, .slice A8 m.f8.length a8, .slice A9 m.f9.length a9, .slice A10 m.f10.length a10, .slice L l.length lc, .slice L l.length lc, .slice none 0 0, .slice L l.length lc]) (by have e40 : b.tmps[40]?.getD undef = .agg #[.slice A0 m.f0.length a0, .slice A1 m.f1.length a1, .slice A2 m.f2.length a2, .slice A3 m.f3.length a3, .slice A4 m.f4.length a4, .slice A5 m.f5.length a5, .slice A6 m.f6.length a6, .int .i64 m.f7, .slice A8 m.f8.length a8, .slice A9 m.f9.length a9, .slice A10 m.f10.length a10] := HF.at rfl; have e41 : b.tmps[41]?.getD undef = .slice L l.length lc := HF.at rfl; have e42 : b.tmps[42]?.getD undef = .slice L l.length lc := HF.at rfl; have e43 : b.tmps[43]?.getD undef = .slice L l.length lc := HF.at rfl; go_simp) ?_
        clear HF b
        intro b HF
        obtain ⟨g12, hg12⟩ : ∃ g12, g12 = w4.heap.size := ⟨_, rfl⟩
        obtain ⟨w5, hw5⟩ : ∃ w5, w5 = w4.alloc (.cells #[.slice none 0 0, .slice none 0 0, .slice none 0 0, .slice none 0 0, .slice none 0 0, .slice none 0 0, .slice none 0 0, .int .i64 0, .slice none 0 0, .slice none 0 0, .slice none 0 0, .slice none 0 0, .slice none 0 0, .slice none 0 0, .slice none 0 0] 64) := ⟨_, rfl⟩
        have hb_ : Below w4.heap.size w4 w5 := by rw [hw5]; exact below_alloc (Below.refl _ _) _
        have HI := Aside0.mk (show Row w5 g12 64 #[.slice none 0 0, .slice none 0 0, .slice none 0 0, .slice none 0 0, .slice none 0 0, .slice none 0 0, .slice none 0 0, .int .i64 0, .slice none 0 0, .slice none 0 0, .slice none 0 0, .slice none 0 0, .slice none 0 0, .slice none 0 0, .slice none 0 0] by rw [hw5, hg12]; exact St.Row.made _ _ _ rfl)
        have NHXg12 := Aside0.mk (show W.heap.size ≠ g12 from fun e => by have := HX.out.lt; rw [hg12] at e; omega)
        have NHRg12 := Aside0.mk (show s ≠ g12 from fun e => by have := HR.out.lt; rw [hg12] at e; omega)
        have HLg12 := Aside0.mk (show W.heap.size ≤ g12 by rw [hg12]; exact HB.out.size)
        replace HX := Aside0.mk (HX.out.below hb_ HX.out.lt)
        replace HR := Aside0.mk (HR.out.below hb_ HR.out.lt)
        replace HB := Aside0.mk (HB.out.trans (St.below_mono hb_ HB.out.size))
        have HA1 := Aside0.mk hg12; have HA2 := Aside0.mk hw5
        clear hb_ hg12 hw5
        refine listM rfl HF rfl (by decide) (v := .pointer (some ⟨g12, 0, none⟩)) (w1 := w5) (by rw [HA2.out, HA1.out]; go_simp) ?_
        clear HF b
        intro b HF
        clear HA1 HA2
        have y0 : w5.cell? ⟨g12, 0, none⟩ = some (.slice none 0 0) := HI.out.cell 0; have z0 := HI.out.frozen 0
        have y1 : w5.cell? ⟨g12, 1, none⟩ = some (.slice none 0 0) := HI.out.cell 1; have z1 := HI.out.frozen 1
        have y2 : w5.cell? ⟨g12, 2, none⟩ = some (.slice none 0 0) := HI.out.cell 2; have z2 := HI.out.frozen 2
        have y3 : w5.cell? ⟨g12, 3, none⟩ = some (.slice none 0 0) := HI.out.cell 3; have z3 := HI.out.frozen 3
        have y4 : w5.cell? ⟨g12, 4, none⟩ = some (.slice none 0 0) := HI.out.cell 4; have z4 := HI.out.frozen 4
        have y5 : w5.cell? ⟨g12, 5, none⟩ = some (.slice none 0 0) := HI.out.cell 5; have z5 := HI.out.frozen 5
        have y6 : w5.cell? ⟨g12, 6, none⟩ = some (.slice none 0 0) := HI.out.cell 6; have z6 := HI.out.frozen 6
        have y7 : w5.cell? ⟨g12, 7, none⟩ = some (.int .i64 0) := HI.out.cell 7; have z7 := HI.out.frozen 7
        have y8 : w5.cell? ⟨g12, 8, none⟩ = some (.slice none 0 0) := HI.out.cell 8; have z8 := HI.out.frozen 8
        have y9 : w5.cell? ⟨g12, 9, none⟩ = some (.slice none 0 0) := HI.out.cell 9; have z9 := HI.out.frozen 9
        have y10 : w5.cell? ⟨g12, 10, none⟩ = some (.slice none 0 0) := HI.out.cell 10; have z10 := HI.out.frozen 10
        have y11 : w5.cell? ⟨g12, 11, none⟩ = some (.slice none 0 0) := HI.out.cell 11; have z11 := HI.out.frozen 11
        have y12 : w5.cell? ⟨g12, 12, none⟩ = some (.slice none 0 0) := HI.out.cell 12; have z12 := HI.out.frozen 12
        have y13 : w5.cell? ⟨g12, 13, none⟩ = some (.slice none 0 0) := HI.out.cell 13; have z13 := HI.out.frozen 13
        have y14 : w5.cell? ⟨g12, 14, none⟩ = some (.slice none 0 0) := HI.out.cell 14; have z14 := HI.out.frozen 14
        refine listS (w1 := put15 w5 g12 (.slice A0 m.f0.length a0) (.slice A1 m.f1.length a1) (.slice A2 m.f2.length a2) (.slice A3 m.f3.length a3) (.slice A4 m.f4.length a4) (.slice A5 m.f5.length a5) (.slice A6 m.f6.length a6) (.int .i64 m.f7) (.slice A8 m.f8.length a8) (.slice A9 m.f9.length a9) (.slice A10 m.f10.length a10) (.slice L l.length lc) (.slice L l.length lc) (.slice none 0 0) (.slice L l.length lc)) rfl HF rfl (by have e_ : b.tmps[44]?.getD undef = .agg #[.slice A0 m.f0.length a0, .slice A1 m.f1.length a1, .slice A2 m.f2.length a2, .slice A3 m.f3.length a3, .slice A4 m.f4.length a4, .slice A5 m.f5.length a5, .slice A6 m.f6.length a6, .int .i64 m.f7, .slice A8 m.f8.length a8, .slice A9 m.f9.length a9, .slice A10 m.f10.length a10, .slice L l.length lc, .slice L l.length lc, .slice none 0 0, .slice L l.length lc] := HF.at rfl; have f_ : b.tmps[12]?.getD undef = .pointer (some ⟨g12, 0, none⟩) := HF.at rfl; go_simp; rfl) ?_
        replace HI := Aside0.mk (put15_row (a0 := .slice A0 m.f0.length a0) (a1 := .slice A1 m.f1.length a1) (a2 := .slice A2 m.f2.length a2) (a3 := .slice A3 m.f3.length a3) (a4 := .slice A4 m.f4.length a4) (a5 := .slice A5 m.f5.length a5) (a6 := .slice A6 m.f6.length a6) (a7 := .int .i64 m.f7) (a8 := .slice A8 m.f8.length a8) (a9 := .slice A9 m.f9.length a9) (a10 := .slice A10 m.f10.length a10) (a11 := .slice L l.length lc) (a12 := .slice L l.length lc) (a13 := .slice none 0 0) (a14 := .slice L l.length lc) HI.out)
        replace HX := Aside0.mk ((put15_off (a0 := .slice A0 m.f0.length a0) (a1 := .slice A1 m.f1.length a1) (a2 := .slice A2 m.f2.length a2) (a3 := .slice A3 m.f3.length a3) (a4 := .slice A4 m.f4.length a4) (a5 := .slice A5 m.f5.length a5) (a6 := .slice A6 m.f6.length a6) (a7 := .int .i64 m.f7) (a8 := .slice A8 m.f8.length a8) (a9 := .slice A9 m.f9.length a9) (a10 := .slice A10 m.f10.length a10) (a11 := .slice L l.length lc) (a12 := .slice L l.length lc) (a13 := .slice none 0 0) (a14 := .slice L l.length lc) _ NHXg12.out).trans HX.out)
        replace HR := Aside0.mk ((put15_off (a0 := .slice A0 m.f0.length a0) (a1 := .slice A1 m.f1.length a1) (a2 := .slice A2 m.f2.length a2) (a3 := .slice A3 m.f3.length a3) (a4 := .slice A4 m.f4.length a4) (a5 := .slice A5 m.f5.length a5) (a6 := .slice A6 m.f6.length a6) (a7 := .int .i64 m.f7) (a8 := .slice A8 m.f8.length a8) (a9 := .slice A9 m.f9.length a9) (a10 := .slice A10 m.f10.length a10) (a11 := .slice L l.length lc) (a12 := .slice L l.length lc) (a13 := .slice none 0 0) (a14 := .slice L l.length lc) _ NHRg12.out).trans HR.out)
        replace HB := Aside0.mk (put15_below (a0 := .slice A0 m.f0.length a0) (a1 := .slice A1 m.f1.length a1) (a2 := .slice A2 m.f2.length a2) (a3 := .slice A3 m.f3.length a3) (a4 := .slice A4 m.f4.length a4) (a5 := .slice A5 m.f5.length a5) (a6 := .slice A6 m.f6.length a6) (a7 := .int .i64 m.f7) (a8 := .slice A8 m.f8.length a8) (a9 := .slice A9 m.f9.length a9) (a10 := .slice A10 m.f10.length a10) (a11 := .slice L l.length lc) (a12 := .slice L l.length lc) (a13 := .slice none 0 0) (a14 := .slice L l.length lc) HB.out HLg12.out)
        clear y0 z0 y1 z1 y2 z2 y3 z3 y4 z4 y5 z5 y6 z6 y7 z7 y8 z8 y9 z9 y10 z10 y11 z11 y12 z12 y13 z13 y14 z14
        generalize put15 w5 g12 (.slice A0 m.f0.length a0) (.slice A1 m.f1.length a1) (.slice A2 m.f2.length a2) (.slice A3 m.f3.length a3) (.slice A4 m.f4.length a4) (.slice A5 m.f5.length a5) (.slice A6 m.f6.length a6) (.int .i64 m.f7) (.slice A8 m.f8.length a8) (.slice A9 m.f9.length a9) (.slice A10 m.f10.length a10) (.slice L l.length lc) (.slice L l.length lc) (.slice none 0 0) (.slice L l.length lc) = w6 at HI HX HR HB ⊢
        replace HI := Aside0.mk (show Row w6 g12 64 #[.slice A0 m.f0.length a0, .slice A1 m.f1.length a1, .slice A2 m.f2.length a2, .slice A3 m.f3.length a3, .slice A4 m.f4.length a4, .slice A5 m.f5.length a5, .slice A6 m.f6.length a6, .int .i64 m.f7, .slice A8 m.f8.length a8, .slice A9 m.f9.length a9, .slice A10 m.f10.length a10, .slice L l.length lc, .slice L l.length lc, .slice none 0 0, .slice L l.length lc] from HI.out)
        replace HX := Aside0.mk (show Row w6 W.heap.size 61 #[.slice A0 m.f0.length a0, .slice A1 m.f1.length a1, .slice A2 m.f2.length a2, .slice A3 m.f3.length a3, .slice A4 m.f4.length a4, .slice A5 m.f5.length a5, .slice A6 m.f6.length a6, .int .i64 m.f7, .slice A8 m.f8.length a8, .slice A9 m.f9.length a9, .slice A10 m.f10.length a10] from HX.out)
        replace HR := Aside0.mk (show Row w6 s 90 #[.slice none 0 0, .slice none 0 0, .slice none 0 0, .slice none 0 0, .slice none 0 0] from HR.out)
        show Code.wp _ _ _ _ _
        replace HF := HF.sub [(12, .pointer (some ⟨g12, 0, none⟩)), (11, .pointer (some ⟨s, 0, none⟩)), (9, .bool true), (4, .pointer (some ⟨W.heap.size, 0, none⟩)), (3, .string name), (2, .int .i64 inst), (1, .slice L l.length lc)] (List.forall_mem_cons.2 ⟨rfl, (List.forall_mem_cons.2 ⟨rfl, (List.forall_mem_cons.2 ⟨rfl, (List.forall_mem_cons.2 ⟨rfl, (List.forall_mem_cons.2 ⟨rfl, (List.forall_mem_cons.2 ⟨rfl, (List.forall_mem_cons.2 ⟨rfl, by intro p_ hp_; cases hp_⟩)⟩)⟩)⟩)⟩)⟩)⟩)
        refine wp_seq ?_
        refine wp_region_lit ?_
        refine listF rfl HF rfl (by decide) (v := .pointer (some ⟨s, 0, none⟩)) (by have e11 : b.tmps[11]?.getD undef = .pointer (some ⟨s, 0, none⟩) := HF.at rfl; go_simp) ?_
        clear HF b
        intro b HF
        refine listF rfl HF rfl (by decide) (v := .agg #[.slice A0 m.f0.length a0, .slice A1 m.f1.length a1, .slice A2 m.f2.length a2, .slice A3 m.f3.length a3, .slice A4 m.f4.length a4, .slice A5 m.f5.length a5, .slice A6 m.f6.length a6, .int .i64 m.f7, .slice A8 m.f8.length a8, .slice A9 m.f9.length a9, .slice A10 m.f10.length a10, .slice L l.length lc, .slice L l.length lc, .slice none 0 0, .slice L l.length lc]) (by have e12 : b.tmps[12]?.getD undef = .pointer (some ⟨g12, 0, none⟩) := HF.at rfl; have c_0 : w6.cell? ⟨g12, 0, none⟩ = some (.slice A0 m.f0.length a0) := HI.out.cell 0; have c_1 : w6.cell? ⟨g12, 1, none⟩ = some (.slice A1 m.f1.length a1) := HI.out.cell 1; have c_2 : w6.cell? ⟨g12, 2, none⟩ = some (.slice A2 m.f2.length a2) := HI.out.cell 2; have c_3 : w6.cell? ⟨g12, 3, none⟩ = some (.slice A3 m.f3.length a3) := HI.out.cell 3; have c_4 : w6.cell? ⟨g12, 4, none⟩ = some (.slice A4 m.f4.length a4) := HI.out.cell 4; have c_5 : w6.cell? ⟨g12, 5, none⟩ = some (.slice A5 m.f5.length a5) := HI.out.cell 5; have c_6 : w6.cell? ⟨g12, 6, none⟩ = some (.slice A6 m.f6.length a6) := HI.out.cell 6; have c_7 : w6.cell? ⟨g12, 7, none⟩ = some (.int .i64 m.f7) := HI.out.cell 7; have c_8 : w6.cell? ⟨g12, 8, none⟩ = some (.slice A8 m.f8.length a8) := HI.out.cell 8; have c_9 : w6.cell? ⟨g12, 9, none⟩ = some (.slice A9 m.f9.length a9) := HI.out.cell 9; have c_10 : w6.cell? ⟨g12, 10, none⟩ = some (.slice A10 m.f10.length a10) := HI.out.cell 10; have c_11 : w6.cell? ⟨g12, 11, none⟩ = some (.slice L l.length lc) := HI.out.cell 11; have c_12 : w6.cell? ⟨g12, 12, none⟩ = some (.slice L l.length lc) := HI.out.cell 12; have c_13 : w6.cell? ⟨g12, 13, none⟩ = some (.slice none 0 0) := HI.out.cell 13; have c_14 : w6.cell? ⟨g12, 14, none⟩ = some (.slice L l.length lc) := HI.out.cell 14; go_simp) ?_
        clear HF b
        intro b HF
        refine listC rfl HF rfl (by decide) (fun K_ hK_ => ?_)
        have e45 : b.tmps[45]?.getD undef = .pointer (some ⟨s, 0, none⟩) := HF.at rfl
        have e46 : b.tmps[46]?.getD undef = .agg #[.slice A0 m.f0.length a0, .slice A1 m.f1.length a1, .slice A2 m.f2.length a2, .slice A3 m.f3.length a3, .slice A4 m.f4.length a4, .slice A5 m.f5.length a5, .slice A6 m.f6.length a6, .int .i64 m.f7, .slice A8 m.f8.length a8, .slice A9 m.f9.length a9, .slice A10 m.f10.length a10, .slice L l.length lc, .slice L l.length lc, .slice none 0 0, .slice L l.length lc] := HF.at rfl
        go_simp
        clear e45 e46
        refine (addInst_calls (n := n) (x := (⟨m, l, l, [], l⟩ : S64)) HR.out (k64.K_below HB.out HKX.out) ⟨HBm.out, KL.out, KL.out, by simp, KL.out⟩).mono ?_
        rintro e w7 ⟨rfl, U, e_, hr7, hu7, ho7⟩
        replace HX := Aside0.mk (show Row w7 W.heap.size 61 #[.slice A0 m.f0.length a0, .slice A1 m.f1.length a1, .slice A2 m.f2.length a2, .slice A3 m.f3.length a3, .slice A4 m.f4.length a4, .slice A5 m.f5.length a5, .slice A6 m.f6.length a6, .int .i64 m.f7, .slice A8 m.f8.length a8, .slice A9 m.f9.length a9, .slice A10 m.f10.length a10] from (ho7.block _ HX.out.lt (by have := HLs.out; omega)).trans HX.out)
        replace HB := Aside0.mk (ho7.below HB.out HB.out.size (fun i hi => by have := HLs.out; omega))
        replace HR := Aside0.mk hr7
        have HU := Aside0.mk (Kd.R_lower hu7 (Nat.zero_le _))
        clear hr7 hu7 ho7 HI NHXg12 NHRg12 HLg12
        refine hK_.out _ _ ?_
        clear hK_ K_ HF b
        intro b HF
        refine listF rfl HF rfl (by decide) (v := .int .i64 0) (by have e47 : b.tmps[47]?.getD undef = .int .i64 0 := HF.at rfl; go_simp) ?_
        clear HF b
        intro b HF
        show Code.wp _ _ _ _ _
        replace HF := HF.sub [(13, .int .i64 0), (11, .pointer (some ⟨s, 0, none⟩)), (9, .bool true), (4, .pointer (some ⟨W.heap.size, 0, none⟩)), (3, .string name), (2, .int .i64 inst), (1, .slice L l.length lc)] (List.forall_mem_cons.2 ⟨rfl, (List.forall_mem_cons.2 ⟨rfl, (List.forall_mem_cons.2 ⟨rfl, (List.forall_mem_cons.2 ⟨rfl, (List.forall_mem_cons.2 ⟨rfl, (List.forall_mem_cons.2 ⟨rfl, (List.forall_mem_cons.2 ⟨rfl, by intro p_ hp_; cases hp_⟩)⟩)⟩)⟩)⟩)⟩)⟩)
        by_cases hin : inst = 0
        case pos =>
          subst hin
          refine wp_seq ?_
          refine wp_region_lit ?_
          refine listF rfl HF rfl (by decide) (v := .pointer (some ⟨s, 0, none⟩)) (by have e11 : b.tmps[11]?.getD undef = .pointer (some ⟨s, 0, none⟩) := HF.at rfl; go_simp) ?_
          clear HF b
          intro b HF
          refine listF rfl HF rfl (by decide) (v := .int .i64 0) (by have e2 : b.tmps[2]?.getD undef = .int .i64 0 := HF.at rfl; go_simp) ?_
          clear HF b
          intro b HF
          refine listF rfl HF rfl (by decide) (v := .string name) (by have e3 : b.tmps[3]?.getD undef = .string name := HF.at rfl; go_simp) ?_
          clear HF b
          intro b HF
          refine listC rfl HF rfl (by decide) (fun K_ hK_ => ?_)
          have e49 : b.tmps[49]?.getD undef = .pointer (some ⟨s, 0, none⟩) := HF.at rfl
          have e50 : b.tmps[50]?.getD undef = .int .i64 0 := HF.at rfl
          have e51 : b.tmps[51]?.getD undef = .string name := HF.at rfl
          go_simp
          clear e49 e50 e51
          refine (exp_yes HR.out HU.out name).mono ?_
          rintro e w8 ⟨kx, ax, is, rfl, ht, hb_⟩
          have HTN := Aside0.mk ht
          replace HU := Aside0.mk (Kd.R_below HU.out hb_)
          replace HX := Aside0.mk (HX.out.below hb_ HX.out.lt)
          replace HR := Aside0.mk (HR.out.below hb_ HR.out.lt)
          replace HB := Aside0.mk (HB.out.trans (St.below_mono hb_ HB.out.size))
          clear hb_ ht
          refine hK_.out _ _ ?_
          clear hK_ K_ HF b
          intro b HF
          refine listF rfl HF rfl (by decide) (v := .tuple #[.agg #[.int .i64 kx, .int .i64 ax], .bool is]) (by have e52 : b.tmps[52]?.getD undef = .tuple #[.agg #[.int .i64 kx, .int .i64 ax], .bool is] := HF.at rfl; go_simp) ?_
          clear HF b
          intro b HF
          refine listF rfl HF rfl (by decide) (v := .agg #[.int .i64 kx, .int .i64 ax]) (by have e48 : b.tmps[48]?.getD undef = .tuple #[.agg #[.int .i64 kx, .int .i64 ax], .bool is] := HF.at rfl; go_simp) ?_
          clear HF b
          intro b HF
          refine listF rfl HF rfl (by decide) (v := .bool is) (by have e48 : b.tmps[48]?.getD undef = .tuple #[.agg #[.int .i64 kx, .int .i64 ax], .bool is] := HF.at rfl; go_simp) ?_
          clear HF b
          intro b HF
          obtain ⟨gx, hgx⟩ : ∃ gx, gx = w8.heap.size := ⟨_, rfl⟩
          obtain ⟨w9, hw9⟩ : ∃ w9, w9 = w8.alloc (.cells #[.int .i64 0, .int .i64 0] 67) := ⟨_, rfl⟩
          have hb_ : Below w8.heap.size w8 w9 := by rw [hw9]; exact below_alloc (Below.refl _ _) _
          have HBU := Aside0.mk hb_
          have HE := Aside0.mk (show Row w9 gx 67 #[.int .i64 0, .int .i64 0] by rw [hw9, hgx]; exact St.Row.made _ _ _ rfl)
          have NHXgx := Aside0.mk (show W.heap.size ≠ gx from fun e => by have := HX.out.lt; rw [hgx] at e; omega)
          have NHRgx := Aside0.mk (show s ≠ gx from fun e => by have := HR.out.lt; rw [hgx] at e; omega)
          have HLgx := Aside0.mk (show W.heap.size ≤ gx by rw [hgx]; exact HB.out.size)
          replace HX := Aside0.mk (HX.out.below hb_ HX.out.lt)
          replace HR := Aside0.mk (HR.out.below hb_ HR.out.lt)
          replace HB := Aside0.mk (HB.out.trans (St.below_mono hb_ HB.out.size))
          have HA1 := Aside0.mk hgx; have HA2 := Aside0.mk hw9
          clear hb_ hgx hw9
          refine listM rfl HF rfl (by decide) (v := .pointer (some ⟨gx, 0, none⟩)) (w1 := w9) (by rw [HA2.out, HA1.out]; go_simp) ?_
          clear HF b
          intro b HF
          clear HA1 HA2
          have y0 : w9.cell? ⟨gx, 0, none⟩ = some (.int .i64 0) := HE.out.cell 0; have z0 := HE.out.frozen 0
          have y1 : w9.cell? ⟨gx, 1, none⟩ = some (.int .i64 0) := HE.out.cell 1; have z1 := HE.out.frozen 1
          have hbu : Below w8.heap.size w8 w9 := HBU.out
          refine listS (w1 := (w9.setCell ⟨gx, 0, none⟩ (.int .i64 kx)).setCell ⟨gx, 1, none⟩ (.int .i64 ax)) rfl HF rfl (by have e_ : b.tmps[53]?.getD undef = .agg #[.int .i64 kx, .int .i64 ax] := HF.at rfl; have f_ : b.tmps[14]?.getD undef = .pointer (some ⟨gx, 0, none⟩) := HF.at rfl; go_simp) ?_
          have r9 := HE.out
          replace HU := Aside0.mk (Kd.R_set (Kd.R_set (Kd.R_below HU.out hbu) r9 (by decide) 0 (.int .i64 kx)) (r9.put_ 0 (.int .i64 kx)) (by decide) 1 (.int .i64 ax))
          replace HE := Aside0.mk ((HE.out.put_ 0 (.int .i64 kx)).put_ 1 (.int .i64 ax))
          replace HX := Aside0.mk ((HX.out.off (p := ⟨gx, 0, none⟩) NHXgx.out (.int .i64 kx)).off (p := ⟨gx, 1, none⟩) NHXgx.out (.int .i64 ax))
          replace HR := Aside0.mk ((HR.out.off (p := ⟨gx, 0, none⟩) NHRgx.out (.int .i64 kx)).off (p := ⟨gx, 1, none⟩) NHRgx.out (.int .i64 ax))
          replace HB := Aside0.mk ((HB.out.setCell (p := ⟨gx, 0, none⟩) HLgx.out (.int .i64 kx)).setCell (p := ⟨gx, 1, none⟩) HLgx.out (.int .i64 ax))
          clear y0 y1 z0 z1 r9 hbu HBU
          generalize (w9.setCell ⟨gx, 0, none⟩ (.int .i64 kx)).setCell ⟨gx, 1, none⟩ (.int .i64 ax) = w10 at HE HX HR HB HU ⊢
          replace HE := Aside0.mk (show Row w10 gx 67 #[.int .i64 kx, .int .i64 ax] from HE.out)
          refine listF rfl HF rfl (by decide) (v := .bool is) (by have e54 : b.tmps[54]?.getD undef = .bool is := HF.at rfl; go_simp) ?_
          clear HF b
          intro b HF
          show Code.wp _ _ _ _ _
          replace HF := HF.sub [(15, .bool is), (14, .pointer (some ⟨gx, 0, none⟩)), (13, .int .i64 0), (11, .pointer (some ⟨s, 0, none⟩)), (9, .bool true), (4, .pointer (some ⟨W.heap.size, 0, none⟩)), (3, .string name), (2, .int .i64 0), (1, .slice L l.length lc)] (List.forall_mem_cons.2 ⟨rfl, (List.forall_mem_cons.2 ⟨rfl, (List.forall_mem_cons.2 ⟨rfl, (List.forall_mem_cons.2 ⟨rfl, (List.forall_mem_cons.2 ⟨rfl, (List.forall_mem_cons.2 ⟨rfl, (List.forall_mem_cons.2 ⟨rfl, (List.forall_mem_cons.2 ⟨rfl, (List.forall_mem_cons.2 ⟨rfl, by intro p_ hp_; cases hp_⟩)⟩)⟩)⟩)⟩)⟩)⟩)⟩)⟩)
          refine wp_seq ?_
          refine wp_region_lit ?_
          refine listF rfl HF rfl (by decide) (v := .pointer (some ⟨s, 0, none⟩)) (by have e11 : b.tmps[11]?.getD undef = .pointer (some ⟨s, 0, none⟩) := HF.at rfl; go_simp) ?_
          clear HF b
          intro b HF
          refine listF rfl HF rfl (by decide) (v := .int .i64 0) (by have e2 : b.tmps[2]?.getD undef = .int .i64 0 := HF.at rfl; go_simp) ?_
          clear HF b
          intro b HF
          refine listC rfl HF rfl (by decide) (fun K_ hK_ => ?_)
          have e56 : b.tmps[56]?.getD undef = .pointer (some ⟨s, 0, none⟩) := HF.at rfl
          have e57 : b.tmps[57]?.getD undef = .int .i64 0 := HF.at rfl
          go_simp
          clear e56 e57
          refine (inst_yes' HR.out HU.out ⟨HBm.out, KL.out, KL.out, by simp, KL.out⟩).mono ?_
          rintro e w11 ⟨D0, d0, D1, d1, D2, d2, D3, d3, D4, d4, D5, d5, D6, d6, D8, d8, D9, d9, D10, d10, D11, d11, D12, d12, D13, d13, D14, d14, rfl, hi, hb_⟩
          have HKI := Aside0.mk (k64.K_of_M hi)
          replace HX := Aside0.mk (HX.out.below hb_ HX.out.lt)
          replace HE := Aside0.mk (HE.out.below hb_ HE.out.lt)
          replace HB := Aside0.mk (HB.out.trans (St.below_mono hb_ HB.out.size))
          clear hb_ hi HR HU NHRgx HLs
          refine hK_.out _ _ ?_
          clear hK_ K_ HF b
          intro b HF
          refine listF rfl HF rfl (by decide) (v := .tuple #[.agg #[.slice D0 m.f0.length d0, .slice D1 m.f1.length d1, .slice D2 m.f2.length d2, .slice D3 m.f3.length d3, .slice D4 m.f4.length d4, .slice D5 m.f5.length d5, .slice D6 m.f6.length d6, .int .i64 m.f7, .slice D8 m.f8.length d8, .slice D9 m.f9.length d9, .slice D10 m.f10.length d10, .slice D11 l.length d11, .slice D12 l.length d12, .slice D13 ([] : List Int).length d13, .slice D14 l.length d14], .bool true]) (by have e58 : b.tmps[58]?.getD undef = .tuple #[.agg #[.slice D0 m.f0.length d0, .slice D1 m.f1.length d1, .slice D2 m.f2.length d2, .slice D3 m.f3.length d3, .slice D4 m.f4.length d4, .slice D5 m.f5.length d5, .slice D6 m.f6.length d6, .int .i64 m.f7, .slice D8 m.f8.length d8, .slice D9 m.f9.length d9, .slice D10 m.f10.length d10, .slice D11 l.length d11, .slice D12 l.length d12, .slice D13 ([] : List Int).length d13, .slice D14 l.length d14], .bool true] := HF.at rfl; go_simp) ?_
          clear HF b
          intro b HF
          refine listF rfl HF rfl (by decide) (v := .agg #[.slice D0 m.f0.length d0, .slice D1 m.f1.length d1, .slice D2 m.f2.length d2, .slice D3 m.f3.length d3, .slice D4 m.f4.length d4, .slice D5 m.f5.length d5, .slice D6 m.f6.length d6, .int .i64 m.f7, .slice D8 m.f8.length d8, .slice D9 m.f9.length d9, .slice D10 m.f10.length d10, .slice D11 l.length d11, .slice D12 l.length d12, .slice D13 ([] : List Int).length d13, .slice D14 l.length d14]) (by have e55 : b.tmps[55]?.getD undef = .tuple #[.agg #[.slice D0 m.f0.length d0, .slice D1 m.f1.length d1, .slice D2 m.f2.length d2, .slice D3 m.f3.length d3, .slice D4 m.f4.length d4, .slice D5 m.f5.length d5, .slice D6 m.f6.length d6, .int .i64 m.f7, .slice D8 m.f8.length d8, .slice D9 m.f9.length d9, .slice D10 m.f10.length d10, .slice D11 l.length d11, .slice D12 l.length d12, .slice D13 ([] : List Int).length d13, .slice D14 l.length d14], .bool true] := HF.at rfl; go_simp) ?_
          clear HF b
          intro b HF
          refine listF rfl HF rfl (by decide) (v := .bool true) (by have e55 : b.tmps[55]?.getD undef = .tuple #[.agg #[.slice D0 m.f0.length d0, .slice D1 m.f1.length d1, .slice D2 m.f2.length d2, .slice D3 m.f3.length d3, .slice D4 m.f4.length d4, .slice D5 m.f5.length d5, .slice D6 m.f6.length d6, .int .i64 m.f7, .slice D8 m.f8.length d8, .slice D9 m.f9.length d9, .slice D10 m.f10.length d10, .slice D11 l.length d11, .slice D12 l.length d12, .slice D13 ([] : List Int).length d13, .slice D14 l.length d14], .bool true] := HF.at rfl; go_simp) ?_
          clear HF b
          intro b HF
          have HK1 := HKI
          obtain ⟨g16, hg16⟩ : ∃ g16, g16 = w11.heap.size := ⟨_, rfl⟩
          obtain ⟨w12, hw12⟩ : ∃ w12, w12 = w11.alloc (.cells #[.slice none 0 0, .slice none 0 0, .slice none 0 0, .slice none 0 0, .slice none 0 0, .slice none 0 0, .slice none 0 0, .int .i64 0, .slice none 0 0, .slice none 0 0, .slice none 0 0, .slice none 0 0, .slice none 0 0, .slice none 0 0, .slice none 0 0] 64) := ⟨_, rfl⟩
          have hb_ : Below w11.heap.size w11 w12 := by rw [hw12]; exact below_alloc (Below.refl _ _) _
          replace HKI := Aside0.mk (k64.K_below hb_ HKI.out)
          have HB11 := Aside0.mk hb_; have HL11 := Aside0.mk (Nat.le_of_eq hg16.symm)
          have HJ := Aside0.mk (show Row w12 g16 64 #[.slice none 0 0, .slice none 0 0, .slice none 0 0, .slice none 0 0, .slice none 0 0, .slice none 0 0, .slice none 0 0, .int .i64 0, .slice none 0 0, .slice none 0 0, .slice none 0 0, .slice none 0 0, .slice none 0 0, .slice none 0 0, .slice none 0 0] by rw [hw12, hg16]; exact St.Row.made _ _ _ rfl)
          have NHXg16 := Aside0.mk (show W.heap.size ≠ g16 from fun e => by have := HX.out.lt; rw [hg16] at e; omega)
          have NHEg16 := Aside0.mk (show gx ≠ g16 from fun e => by have := HE.out.lt; rw [hg16] at e; omega)
          have HLg16 := Aside0.mk (show W.heap.size ≤ g16 by rw [hg16]; exact HB.out.size)
          replace HX := Aside0.mk (HX.out.below hb_ HX.out.lt)
          replace HE := Aside0.mk (HE.out.below hb_ HE.out.lt)
          replace HB := Aside0.mk (HB.out.trans (St.below_mono hb_ HB.out.size))
          have HA1 := Aside0.mk hg16; have HA2 := Aside0.mk hw12
          clear hb_ hg16 hw12
          refine listM rfl HF rfl (by decide) (v := .pointer (some ⟨g16, 0, none⟩)) (w1 := w12) (by rw [HA2.out, HA1.out]; go_simp) ?_
          clear HF b
          intro b HF
          clear HA1 HA2
          have HFr := Aside0.mk (show ∀ v0 v1 v2 v3 v4 v5 v6 v7 v8 v9 v10 v11 v12 v13 v14, Below w11.heap.size w11 (put15 w12 g16 v0 v1 v2 v3 v4 v5 v6 v7 v8 v9 v10 v11 v12 v13 v14) from fun v0 v1 v2 v3 v4 v5 v6 v7 v8 v9 v10 v11 v12 v13 v14 => put15_below HB11.out HL11.out)
          have HKJ := Aside0.mk (k64.K_below (HFr.out (.slice D0 m.f0.length d0) (.slice D1 m.f1.length d1) (.slice D2 m.f2.length d2) (.slice D3 m.f3.length d3) (.slice D4 m.f4.length d4) (.slice D5 m.f5.length d5) (.slice D6 m.f6.length d6) (.int .i64 m.f7) (.slice D8 m.f8.length d8) (.slice D9 m.f9.length d9) (.slice D10 m.f10.length d10) (.slice D11 l.length d11) (.slice D12 l.length d12) (.slice D13 ([] : List Int).length d13) (.slice D14 l.length d14)) HK1.out)
          clear HFr HB11 HL11 HKI HK1
          have y0 : w12.cell? ⟨g16, 0, none⟩ = some (.slice none 0 0) := HJ.out.cell 0; have z0 := HJ.out.frozen 0
          have y1 : w12.cell? ⟨g16, 1, none⟩ = some (.slice none 0 0) := HJ.out.cell 1; have z1 := HJ.out.frozen 1
          have y2 : w12.cell? ⟨g16, 2, none⟩ = some (.slice none 0 0) := HJ.out.cell 2; have z2 := HJ.out.frozen 2
          have y3 : w12.cell? ⟨g16, 3, none⟩ = some (.slice none 0 0) := HJ.out.cell 3; have z3 := HJ.out.frozen 3
          have y4 : w12.cell? ⟨g16, 4, none⟩ = some (.slice none 0 0) := HJ.out.cell 4; have z4 := HJ.out.frozen 4
          have y5 : w12.cell? ⟨g16, 5, none⟩ = some (.slice none 0 0) := HJ.out.cell 5; have z5 := HJ.out.frozen 5
          have y6 : w12.cell? ⟨g16, 6, none⟩ = some (.slice none 0 0) := HJ.out.cell 6; have z6 := HJ.out.frozen 6
          have y7 : w12.cell? ⟨g16, 7, none⟩ = some (.int .i64 0) := HJ.out.cell 7; have z7 := HJ.out.frozen 7
          have y8 : w12.cell? ⟨g16, 8, none⟩ = some (.slice none 0 0) := HJ.out.cell 8; have z8 := HJ.out.frozen 8
          have y9 : w12.cell? ⟨g16, 9, none⟩ = some (.slice none 0 0) := HJ.out.cell 9; have z9 := HJ.out.frozen 9
          have y10 : w12.cell? ⟨g16, 10, none⟩ = some (.slice none 0 0) := HJ.out.cell 10; have z10 := HJ.out.frozen 10
          have y11 : w12.cell? ⟨g16, 11, none⟩ = some (.slice none 0 0) := HJ.out.cell 11; have z11 := HJ.out.frozen 11
          have y12 : w12.cell? ⟨g16, 12, none⟩ = some (.slice none 0 0) := HJ.out.cell 12; have z12 := HJ.out.frozen 12
          have y13 : w12.cell? ⟨g16, 13, none⟩ = some (.slice none 0 0) := HJ.out.cell 13; have z13 := HJ.out.frozen 13
          have y14 : w12.cell? ⟨g16, 14, none⟩ = some (.slice none 0 0) := HJ.out.cell 14; have z14 := HJ.out.frozen 14
          refine listS (w1 := put15 w12 g16 (.slice D0 m.f0.length d0) (.slice D1 m.f1.length d1) (.slice D2 m.f2.length d2) (.slice D3 m.f3.length d3) (.slice D4 m.f4.length d4) (.slice D5 m.f5.length d5) (.slice D6 m.f6.length d6) (.int .i64 m.f7) (.slice D8 m.f8.length d8) (.slice D9 m.f9.length d9) (.slice D10 m.f10.length d10) (.slice D11 l.length d11) (.slice D12 l.length d12) (.slice D13 ([] : List Int).length d13) (.slice D14 l.length d14)) rfl HF rfl (by have e_ : b.tmps[59]?.getD undef = .agg #[.slice D0 m.f0.length d0, .slice D1 m.f1.length d1, .slice D2 m.f2.length d2, .slice D3 m.f3.length d3, .slice D4 m.f4.length d4, .slice D5 m.f5.length d5, .slice D6 m.f6.length d6, .int .i64 m.f7, .slice D8 m.f8.length d8, .slice D9 m.f9.length d9, .slice D10 m.f10.length d10, .slice D11 l.length d11, .slice D12 l.length d12, .slice D13 ([] : List Int).length d13, .slice D14 l.length d14] := HF.at rfl; have f_ : b.tmps[16]?.getD undef = .pointer (some ⟨g16, 0, none⟩) := HF.at rfl; go_simp; rfl) ?_
          replace HJ := Aside0.mk (put15_row (a0 := .slice D0 m.f0.length d0) (a1 := .slice D1 m.f1.length d1) (a2 := .slice D2 m.f2.length d2) (a3 := .slice D3 m.f3.length d3) (a4 := .slice D4 m.f4.length d4) (a5 := .slice D5 m.f5.length d5) (a6 := .slice D6 m.f6.length d6) (a7 := .int .i64 m.f7) (a8 := .slice D8 m.f8.length d8) (a9 := .slice D9 m.f9.length d9) (a10 := .slice D10 m.f10.length d10) (a11 := .slice D11 l.length d11) (a12 := .slice D12 l.length d12) (a13 := .slice D13 ([] : List Int).length d13) (a14 := .slice D14 l.length d14) HJ.out)
          replace HX := Aside0.mk ((put15_off (a0 := .slice D0 m.f0.length d0) (a1 := .slice D1 m.f1.length d1) (a2 := .slice D2 m.f2.length d2) (a3 := .slice D3 m.f3.length d3) (a4 := .slice D4 m.f4.length d4) (a5 := .slice D5 m.f5.length d5) (a6 := .slice D6 m.f6.length d6) (a7 := .int .i64 m.f7) (a8 := .slice D8 m.f8.length d8) (a9 := .slice D9 m.f9.length d9) (a10 := .slice D10 m.f10.length d10) (a11 := .slice D11 l.length d11) (a12 := .slice D12 l.length d12) (a13 := .slice D13 ([] : List Int).length d13) (a14 := .slice D14 l.length d14) _ NHXg16.out).trans HX.out)
          replace HE := Aside0.mk ((put15_off (a0 := .slice D0 m.f0.length d0) (a1 := .slice D1 m.f1.length d1) (a2 := .slice D2 m.f2.length d2) (a3 := .slice D3 m.f3.length d3) (a4 := .slice D4 m.f4.length d4) (a5 := .slice D5 m.f5.length d5) (a6 := .slice D6 m.f6.length d6) (a7 := .int .i64 m.f7) (a8 := .slice D8 m.f8.length d8) (a9 := .slice D9 m.f9.length d9) (a10 := .slice D10 m.f10.length d10) (a11 := .slice D11 l.length d11) (a12 := .slice D12 l.length d12) (a13 := .slice D13 ([] : List Int).length d13) (a14 := .slice D14 l.length d14) _ NHEg16.out).trans HE.out)
          replace HB := Aside0.mk (put15_below (a0 := .slice D0 m.f0.length d0) (a1 := .slice D1 m.f1.length d1) (a2 := .slice D2 m.f2.length d2) (a3 := .slice D3 m.f3.length d3) (a4 := .slice D4 m.f4.length d4) (a5 := .slice D5 m.f5.length d5) (a6 := .slice D6 m.f6.length d6) (a7 := .int .i64 m.f7) (a8 := .slice D8 m.f8.length d8) (a9 := .slice D9 m.f9.length d9) (a10 := .slice D10 m.f10.length d10) (a11 := .slice D11 l.length d11) (a12 := .slice D12 l.length d12) (a13 := .slice D13 ([] : List Int).length d13) (a14 := .slice D14 l.length d14) HB.out HLg16.out)
          clear y0 z0 y1 z1 y2 z2 y3 z3 y4 z4 y5 z5 y6 z6 y7 z7 y8 z8 y9 z9 y10 z10 y11 z11 y12 z12 y13 z13 y14 z14
          generalize put15 w12 g16 (.slice D0 m.f0.length d0) (.slice D1 m.f1.length d1) (.slice D2 m.f2.length d2) (.slice D3 m.f3.length d3) (.slice D4 m.f4.length d4) (.slice D5 m.f5.length d5) (.slice D6 m.f6.length d6) (.int .i64 m.f7) (.slice D8 m.f8.length d8) (.slice D9 m.f9.length d9) (.slice D10 m.f10.length d10) (.slice D11 l.length d11) (.slice D12 l.length d12) (.slice D13 ([] : List Int).length d13) (.slice D14 l.length d14) = w13 at HJ HX HE HB HKJ ⊢
          replace HJ := Aside0.mk (show Row w13 g16 64 #[.slice D0 m.f0.length d0, .slice D1 m.f1.length d1, .slice D2 m.f2.length d2, .slice D3 m.f3.length d3, .slice D4 m.f4.length d4, .slice D5 m.f5.length d5, .slice D6 m.f6.length d6, .int .i64 m.f7, .slice D8 m.f8.length d8, .slice D9 m.f9.length d9, .slice D10 m.f10.length d10, .slice D11 l.length d11, .slice D12 l.length d12, .slice D13 ([] : List Int).length d13, .slice D14 l.length d14] from HJ.out)
          replace HX := Aside0.mk (show Row w13 W.heap.size 61 #[.slice A0 m.f0.length a0, .slice A1 m.f1.length a1, .slice A2 m.f2.length a2, .slice A3 m.f3.length a3, .slice A4 m.f4.length a4, .slice A5 m.f5.length a5, .slice A6 m.f6.length a6, .int .i64 m.f7, .slice A8 m.f8.length a8, .slice A9 m.f9.length a9, .slice A10 m.f10.length a10] from HX.out)
          replace HE := Aside0.mk (show Row w13 gx 67 #[.int .i64 kx, .int .i64 ax] from HE.out)
          refine listF rfl HF rfl (by decide) (v := .bool true) (by have e60 : b.tmps[60]?.getD undef = .bool true := HF.at rfl; go_simp) ?_
          clear HF b
          intro b HF
          show Code.wp _ _ _ _ _
          replace HF := HF.sub [(17, .bool true), (16, .pointer (some ⟨g16, 0, none⟩)), (15, .bool is), (14, .pointer (some ⟨gx, 0, none⟩)), (13, .int .i64 0), (9, .bool true), (4, .pointer (some ⟨W.heap.size, 0, none⟩)), (3, .string name), (2, .int .i64 0), (1, .slice L l.length lc)] (List.forall_mem_cons.2 ⟨rfl, (List.forall_mem_cons.2 ⟨rfl, (List.forall_mem_cons.2 ⟨rfl, (List.forall_mem_cons.2 ⟨rfl, (List.forall_mem_cons.2 ⟨rfl, (List.forall_mem_cons.2 ⟨rfl, (List.forall_mem_cons.2 ⟨rfl, (List.forall_mem_cons.2 ⟨rfl, (List.forall_mem_cons.2 ⟨rfl, (List.forall_mem_cons.2 ⟨rfl, by intro p_ hp_; cases hp_⟩)⟩)⟩)⟩)⟩)⟩)⟩)⟩)⟩)⟩)
          refine wp_seq ?_
          refine wp_seq ?_
          refine wp_region_lit ?_
          obtain ⟨B0, b0, B1, b1, B2, b2, B3, b3, B4, b4, B5, b5, B6, b6, B8, b8, B9, b9, B10, b10, B11, b11, B12, b12, B13, b13, B14, b14, ek, p0, r0, p1, r1, p2, r2, p3, r3, p4, r4, p5, r5, p6, r6, p8, r8, p9, r9, p10, r10, p11, r11, p12, r12, p13, r13, p14, r14⟩ := k64_open HKJ.out
          simp only [List.cons.injEq, Value.slice.injEq, and_true, true_and] at ek
          obtain ⟨⟨rfl, rfl⟩, ⟨rfl, rfl⟩, ⟨rfl, rfl⟩, ⟨rfl, rfl⟩, ⟨rfl, rfl⟩, ⟨rfl, rfl⟩, ⟨rfl, rfl⟩, ⟨rfl, rfl⟩, ⟨rfl, rfl⟩, ⟨rfl, rfl⟩, ⟨rfl, rfl⟩, ⟨rfl, rfl⟩, ⟨rfl, rfl⟩, ⟨rfl, rfl⟩⟩ := ek
          have HKD := Aside0.mk (k61_mk w13 m p0 r0 p1 r1 p2 r2 p3 r3 p4 r4 p5 r5 p6 r6 p8 r8 p9 r9 p10 r10)
          have Q11 := Aside0.mk p11; have R11 := Aside0.mk r11
          have Q12 := Aside0.mk p12; have R12 := Aside0.mk r12
          have Q13 := Aside0.mk p13; have R13 := Aside0.mk r13
          have Q14 := Aside0.mk p14; have R14 := Aside0.mk r14
          clear HKJ p0 r0 p1 r1 p2 r2 p3 r3 p4 r4 p5 r5 p6 r6 p8 r8 p9 r9 p10 r10 p11 r11 p12 r12 p13 r13 p14 r14
          refine listF rfl HF rfl (by decide) (v := .int .i64 0) (by have e13 : b.tmps[13]?.getD undef = .int .i64 0 := HF.at rfl; go_simp) ?_
          clear HF b
          intro b HF
          refine listF rfl HF rfl (by decide) (v := .bool false) (by have e61 : b.tmps[61]?.getD undef = .int .i64 0 := HF.at rfl; go_simp) ?_
          clear HF b
          intro b HF
          refine listF rfl HF rfl (by decide) (v := .bool false) (by have e62 : b.tmps[62]?.getD undef = .bool false := HF.at rfl; go_simp) ?_
          clear HF b
          intro b HF
          refine listF rfl HF rfl (by decide) (v := .bool true) (by have e17 : b.tmps[17]?.getD undef = .bool true := HF.at rfl; go_simp) ?_
          clear HF b
          intro b HF
          refine listF rfl HF rfl (by decide) (v := .int .i64 0) (by have e2 : b.tmps[2]?.getD undef = .int .i64 0 := HF.at rfl; go_simp) ?_
          clear HF b
          intro b HF
          refine listF rfl HF rfl (by decide) (v := .bool true) (by have e65 : b.tmps[65]?.getD undef = .int .i64 0 := HF.at rfl; go_simp) ?_
          clear HF b
          intro b HF
          refine listF rfl HF rfl (by decide) (v := .bool false) (by have e64 : b.tmps[64]?.getD undef = .bool true := HF.at rfl; have e66 : b.tmps[66]?.getD undef = .bool true := HF.at rfl; go_simp) ?_
          clear HF b
          intro b HF
          refine listF rfl HF rfl (by decide) (v := .bool false) (by have e63 : b.tmps[63]?.getD undef = .bool false := HF.at rfl; have e67 : b.tmps[67]?.getD undef = .bool false := HF.at rfl; go_simp) ?_
          clear HF b
          intro b HF
          refine listF rfl HF rfl (by decide) (v := .bool false) (by have e68 : b.tmps[68]?.getD undef = .bool false := HF.at rfl; go_simp) ?_
          clear HF b
          intro b HF
          refine listF rfl HF rfl (by decide) (v := .bool true) (by have e17 : b.tmps[17]?.getD undef = .bool true := HF.at rfl; go_simp) ?_
          clear HF b
          intro b HF
          refine listF rfl HF rfl (by decide) (v := .bool true) (by have e70 : b.tmps[70]?.getD undef = .bool true := HF.at rfl; go_simp) ?_
          clear HF b
          intro b HF
          refine listF rfl HF rfl (by decide) (v := .pointer (some ⟨g16, 0, none⟩)) (by have e16 : b.tmps[16]?.getD undef = .pointer (some ⟨g16, 0, none⟩) := HF.at rfl; go_simp) ?_
          clear HF b
          intro b HF
          refine listF rfl HF rfl (by decide) (v := .agg #[.slice D0 m.f0.length d0, .slice D1 m.f1.length d1, .slice D2 m.f2.length d2, .slice D3 m.f3.length d3, .slice D4 m.f4.length d4, .slice D5 m.f5.length d5, .slice D6 m.f6.length d6, .int .i64 m.f7, .slice D8 m.f8.length d8, .slice D9 m.f9.length d9, .slice D10 m.f10.length d10]) (by have e72 : b.tmps[72]?.getD undef = .pointer (some ⟨g16, 0, none⟩) := HF.at rfl; have c_0 : w13.cell? ⟨g16, 0, none⟩ = some (.slice D0 m.f0.length d0) := HJ.out.cell 0; have c_1 : w13.cell? ⟨g16, 1, none⟩ = some (.slice D1 m.f1.length d1) := HJ.out.cell 1; have c_2 : w13.cell? ⟨g16, 2, none⟩ = some (.slice D2 m.f2.length d2) := HJ.out.cell 2; have c_3 : w13.cell? ⟨g16, 3, none⟩ = some (.slice D3 m.f3.length d3) := HJ.out.cell 3; have c_4 : w13.cell? ⟨g16, 4, none⟩ = some (.slice D4 m.f4.length d4) := HJ.out.cell 4; have c_5 : w13.cell? ⟨g16, 5, none⟩ = some (.slice D5 m.f5.length d5) := HJ.out.cell 5; have c_6 : w13.cell? ⟨g16, 6, none⟩ = some (.slice D6 m.f6.length d6) := HJ.out.cell 6; have c_7 : w13.cell? ⟨g16, 7, none⟩ = some (.int .i64 m.f7) := HJ.out.cell 7; have c_8 : w13.cell? ⟨g16, 8, none⟩ = some (.slice D8 m.f8.length d8) := HJ.out.cell 8; have c_9 : w13.cell? ⟨g16, 9, none⟩ = some (.slice D9 m.f9.length d9) := HJ.out.cell 9; have c_10 : w13.cell? ⟨g16, 10, none⟩ = some (.slice D10 m.f10.length d10) := HJ.out.cell 10; go_simp) ?_
          clear HF b
          intro b HF
          refine listF rfl HF rfl (by decide) (v := .agg #[.slice A0 m.f0.length a0, .slice A1 m.f1.length a1, .slice A2 m.f2.length a2, .slice A3 m.f3.length a3, .slice A4 m.f4.length a4, .slice A5 m.f5.length a5, .slice A6 m.f6.length a6, .int .i64 m.f7, .slice A8 m.f8.length a8, .slice A9 m.f9.length a9, .slice A10 m.f10.length a10]) (by have e4 : b.tmps[4]?.getD undef = .pointer (some ⟨W.heap.size, 0, none⟩) := HF.at rfl; have c_0 : w13.cell? ⟨W.heap.size, 0, none⟩ = some (.slice A0 m.f0.length a0) := HX.out.cell 0; have c_1 : w13.cell? ⟨W.heap.size, 1, none⟩ = some (.slice A1 m.f1.length a1) := HX.out.cell 1; have c_2 : w13.cell? ⟨W.heap.size, 2, none⟩ = some (.slice A2 m.f2.length a2) := HX.out.cell 2; have c_3 : w13.cell? ⟨W.heap.size, 3, none⟩ = some (.slice A3 m.f3.length a3) := HX.out.cell 3; have c_4 : w13.cell? ⟨W.heap.size, 4, none⟩ = some (.slice A4 m.f4.length a4) := HX.out.cell 4; have c_5 : w13.cell? ⟨W.heap.size, 5, none⟩ = some (.slice A5 m.f5.length a5) := HX.out.cell 5; have c_6 : w13.cell? ⟨W.heap.size, 6, none⟩ = some (.slice A6 m.f6.length a6) := HX.out.cell 6; have c_7 : w13.cell? ⟨W.heap.size, 7, none⟩ = some (.int .i64 m.f7) := HX.out.cell 7; have c_8 : w13.cell? ⟨W.heap.size, 8, none⟩ = some (.slice A8 m.f8.length a8) := HX.out.cell 8; have c_9 : w13.cell? ⟨W.heap.size, 9, none⟩ = some (.slice A9 m.f9.length a9) := HX.out.cell 9; have c_10 : w13.cell? ⟨W.heap.size, 10, none⟩ = some (.slice A10 m.f10.length a10) := HX.out.cell 10; go_simp) ?_
          clear HF b
          intro b HF
          refine listC rfl HF rfl (by decide) (fun K_ hK_ => ?_)
          have e73 : b.tmps[73]?.getD undef = .agg #[.slice D0 m.f0.length d0, .slice D1 m.f1.length d1, .slice D2 m.f2.length d2, .slice D3 m.f3.length d3, .slice D4 m.f4.length d4, .slice D5 m.f5.length d5, .slice D6 m.f6.length d6, .int .i64 m.f7, .slice D8 m.f8.length d8, .slice D9 m.f9.length d9, .slice D10 m.f10.length d10] := HF.at rfl
          have e74 : b.tmps[74]?.getD undef = .agg #[.slice A0 m.f0.length a0, .slice A1 m.f1.length a1, .slice A2 m.f2.length a2, .slice A3 m.f3.length a3, .slice A4 m.f4.length a4, .slice A5 m.f5.length a5, .slice A6 m.f6.length a6, .int .i64 m.f7, .slice A8 m.f8.length a8, .slice A9 m.f9.length a9, .slice A10 m.f10.length a10] := HF.at rfl
          go_simp
          clear e73 e74
          refine (same_self HKD.out (k61.K_below HB.out HKM.out)).mono ?_
          rintro e w14 ⟨rfl, hb_⟩
          replace R11 := Aside0.mk (Kd.C_below R11.out hb_)
          replace R12 := Aside0.mk (Kd.C_below R12.out hb_)
          replace R13 := Aside0.mk (Kd.C_below R13.out hb_)
          replace R14 := Aside0.mk (Kd.C_below R14.out hb_)
          replace HX := Aside0.mk (HX.out.below hb_ HX.out.lt)
          replace HE := Aside0.mk (HE.out.below hb_ HE.out.lt)
          replace HJ := Aside0.mk (HJ.out.below hb_ HJ.out.lt)
          replace HB := Aside0.mk (HB.out.trans (St.below_mono hb_ HB.out.size))
          clear hb_ HKD
          refine hK_.out _ _ ?_
          clear hK_ K_ HF b
          intro b HF
          refine listF rfl HF rfl (by decide) (v := .bool false) (by have e75 : b.tmps[75]?.getD undef = .bool true := HF.at rfl; go_simp) ?_
          clear HF b
          intro b HF
          refine listF rfl HF rfl (by decide) (v := .bool false) (by have e76 : b.tmps[76]?.getD undef = .bool false := HF.at rfl; go_simp) ?_
          clear HF b
          intro b HF
          refine listF rfl HF rfl (by decide) (v := .pointer (some ⟨g16, 11, none⟩)) (by have e16 : b.tmps[16]?.getD undef = .pointer (some ⟨g16, 0, none⟩) := HF.at rfl; go_simp) ?_
          clear HF b
          intro b HF
          refine listF rfl HF rfl (by decide) (v := .slice D11 l.length d11) (by have e78 : b.tmps[78]?.getD undef = .pointer (some ⟨g16, 11, none⟩) := HF.at rfl; have c_0 : w14.cell? ⟨g16, 11, none⟩ = some (.slice D11 l.length d11) := HJ.out.cell 11; go_simp) ?_
          clear HF b
          intro b HF
          refine listF rfl HF rfl (by decide) (v := .slice L l.length lc) (by have e1 : b.tmps[1]?.getD undef = .slice L l.length lc := HF.at rfl; go_simp) ?_
          clear HF b
          intro b HF
          refine listC rfl HF rfl (by decide) (fun K_ hK_ => ?_)
          have e79 : b.tmps[79]?.getD undef = .slice D11 l.length d11 := HF.at rfl
          have e80 : b.tmps[80]?.getD undef = .slice L l.length lc := HF.at rfl
          go_simp
          clear e79 e80
          refine (ints_self l R11.out Q11.out (Kd.C_below GL.out HB.out) LL.out).mono ?_
          rintro e w15 ⟨rfl, nd, hwn⟩
          have hb_ : Below w14.heap.size w14 w15 := by rw [hwn]; exact pw_below_drewN (Below.refl _ _) nd
          clear hwn
          replace R11 := Aside0.mk (Kd.C_below R11.out hb_)
          replace R12 := Aside0.mk (Kd.C_below R12.out hb_)
          replace R13 := Aside0.mk (Kd.C_below R13.out hb_)
          replace R14 := Aside0.mk (Kd.C_below R14.out hb_)
          replace HX := Aside0.mk (HX.out.below hb_ HX.out.lt)
          replace HE := Aside0.mk (HE.out.below hb_ HE.out.lt)
          replace HJ := Aside0.mk (HJ.out.below hb_ HJ.out.lt)
          replace HB := Aside0.mk (HB.out.trans (St.below_mono hb_ HB.out.size))
          clear hb_
          refine hK_.out _ _ ?_
          clear hK_ K_ HF b
          intro b HF
          refine listF rfl HF rfl (by decide) (v := .bool false) (by have e81 : b.tmps[81]?.getD undef = .bool true := HF.at rfl; go_simp) ?_
          clear HF b
          intro b HF
          refine listF rfl HF rfl (by decide) (v := .bool false) (by have e77 : b.tmps[77]?.getD undef = .bool false := HF.at rfl; have e82 : b.tmps[82]?.getD undef = .bool false := HF.at rfl; go_simp) ?_
          clear HF b
          intro b HF
          refine listF rfl HF rfl (by decide) (v := .bool false) (by have e83 : b.tmps[83]?.getD undef = .bool false := HF.at rfl; go_simp) ?_
          clear HF b
          intro b HF
          refine listF rfl HF rfl (by decide) (v := .pointer (some ⟨g16, 12, none⟩)) (by have e16 : b.tmps[16]?.getD undef = .pointer (some ⟨g16, 0, none⟩) := HF.at rfl; go_simp) ?_
          clear HF b
          intro b HF
          refine listF rfl HF rfl (by decide) (v := .slice D12 l.length d12) (by have e85 : b.tmps[85]?.getD undef = .pointer (some ⟨g16, 12, none⟩) := HF.at rfl; have c_0 : w15.cell? ⟨g16, 12, none⟩ = some (.slice D12 l.length d12) := HJ.out.cell 12; go_simp) ?_
          clear HF b
          intro b HF
          refine listF rfl HF rfl (by decide) (v := .slice L l.length lc) (by have e1 : b.tmps[1]?.getD undef = .slice L l.length lc := HF.at rfl; go_simp) ?_
          clear HF b
          intro b HF
          refine listC rfl HF rfl (by decide) (fun K_ hK_ => ?_)
          have e86 : b.tmps[86]?.getD undef = .slice D12 l.length d12 := HF.at rfl
          have e87 : b.tmps[87]?.getD undef = .slice L l.length lc := HF.at rfl
          go_simp
          clear e86 e87
          refine (ints_self l R12.out Q12.out (Kd.C_below GL.out HB.out) LL.out).mono ?_
          rintro e w16 ⟨rfl, nd, hwn⟩
          have hb_ : Below w15.heap.size w15 w16 := by rw [hwn]; exact pw_below_drewN (Below.refl _ _) nd
          clear hwn
          replace R11 := Aside0.mk (Kd.C_below R11.out hb_)
          replace R12 := Aside0.mk (Kd.C_below R12.out hb_)
          replace R13 := Aside0.mk (Kd.C_below R13.out hb_)
          replace R14 := Aside0.mk (Kd.C_below R14.out hb_)
          replace HX := Aside0.mk (HX.out.below hb_ HX.out.lt)
          replace HE := Aside0.mk (HE.out.below hb_ HE.out.lt)
          replace HJ := Aside0.mk (HJ.out.below hb_ HJ.out.lt)
          replace HB := Aside0.mk (HB.out.trans (St.below_mono hb_ HB.out.size))
          clear hb_
          refine hK_.out _ _ ?_
          clear hK_ K_ HF b
          intro b HF
          refine listF rfl HF rfl (by decide) (v := .bool false) (by have e88 : b.tmps[88]?.getD undef = .bool true := HF.at rfl; go_simp) ?_
          clear HF b
          intro b HF
          refine listF rfl HF rfl (by decide) (v := .bool false) (by have e84 : b.tmps[84]?.getD undef = .bool false := HF.at rfl; have e89 : b.tmps[89]?.getD undef = .bool false := HF.at rfl; go_simp) ?_
          clear HF b
          intro b HF
          refine listF rfl HF rfl (by decide) (v := .bool false) (by have e90 : b.tmps[90]?.getD undef = .bool false := HF.at rfl; go_simp) ?_
          clear HF b
          intro b HF
          refine listF rfl HF rfl (by decide) (v := .pointer (some ⟨g16, 14, none⟩)) (by have e16 : b.tmps[16]?.getD undef = .pointer (some ⟨g16, 0, none⟩) := HF.at rfl; go_simp) ?_
          clear HF b
          intro b HF
          refine listF rfl HF rfl (by decide) (v := .slice D14 l.length d14) (by have e92 : b.tmps[92]?.getD undef = .pointer (some ⟨g16, 14, none⟩) := HF.at rfl; have c_0 : w16.cell? ⟨g16, 14, none⟩ = some (.slice D14 l.length d14) := HJ.out.cell 14; go_simp) ?_
          clear HF b
          intro b HF
          refine listF rfl HF rfl (by decide) (v := .slice L l.length lc) (by have e1 : b.tmps[1]?.getD undef = .slice L l.length lc := HF.at rfl; go_simp) ?_
          clear HF b
          intro b HF
          refine listC rfl HF rfl (by decide) (fun K_ hK_ => ?_)
          have e93 : b.tmps[93]?.getD undef = .slice D14 l.length d14 := HF.at rfl
          have e94 : b.tmps[94]?.getD undef = .slice L l.length lc := HF.at rfl
          go_simp
          clear e93 e94
          refine (ints_self l R14.out Q14.out (Kd.C_below GL.out HB.out) LL.out).mono ?_
          rintro e w17 ⟨rfl, nd, hwn⟩
          have hb_ : Below w16.heap.size w16 w17 := by rw [hwn]; exact pw_below_drewN (Below.refl _ _) nd
          clear hwn
          replace R11 := Aside0.mk (Kd.C_below R11.out hb_)
          replace R12 := Aside0.mk (Kd.C_below R12.out hb_)
          replace R13 := Aside0.mk (Kd.C_below R13.out hb_)
          replace R14 := Aside0.mk (Kd.C_below R14.out hb_)
          replace HX := Aside0.mk (HX.out.below hb_ HX.out.lt)
          replace HE := Aside0.mk (HE.out.below hb_ HE.out.lt)
          replace HJ := Aside0.mk (HJ.out.below hb_ HJ.out.lt)
          replace HB := Aside0.mk (HB.out.trans (St.below_mono hb_ HB.out.size))
          clear hb_
          refine hK_.out _ _ ?_
          clear hK_ K_ HF b
          intro b HF
          refine listF rfl HF rfl (by decide) (v := .bool false) (by have e95 : b.tmps[95]?.getD undef = .bool true := HF.at rfl; go_simp) ?_
          clear HF b
          intro b HF
          refine listF rfl HF rfl (by decide) (v := .bool false) (by have e91 : b.tmps[91]?.getD undef = .bool false := HF.at rfl; have e96 : b.tmps[96]?.getD undef = .bool false := HF.at rfl; go_simp) ?_
          clear HF b
          intro b HF
          refine listF rfl HF rfl (by decide) (v := .bool false) (by have e97 : b.tmps[97]?.getD undef = .bool false := HF.at rfl; go_simp) ?_
          clear HF b
          intro b HF
          refine listF rfl HF rfl (by decide) (v := .pointer (some ⟨g16, 13, none⟩)) (by have e16 : b.tmps[16]?.getD undef = .pointer (some ⟨g16, 0, none⟩) := HF.at rfl; go_simp) ?_
          clear HF b
          intro b HF
          refine listF rfl HF rfl (by decide) (v := .slice D13 ([] : List Int).length d13) (by have e99 : b.tmps[99]?.getD undef = .pointer (some ⟨g16, 13, none⟩) := HF.at rfl; have c_0 : w17.cell? ⟨g16, 13, none⟩ = some (.slice D13 ([] : List Int).length d13) := HJ.out.cell 13; go_simp) ?_
          clear HF b
          intro b HF
          refine listF rfl HF rfl (by decide) (v := .int .i64 0) (by have e100 : b.tmps[100]?.getD undef = .slice D13 ([] : List Int).length d13 := HF.at rfl; go_simp) ?_
          clear HF b
          intro b HF
          refine listF rfl HF rfl (by decide) (v := .bool false) (by have e101 : b.tmps[101]?.getD undef = .int .i64 0 := HF.at rfl; go_simp) ?_
          clear HF b
          intro b HF
          refine listF rfl HF rfl (by decide) (v := .bool false) (by have e98 : b.tmps[98]?.getD undef = .bool false := HF.at rfl; have e102 : b.tmps[102]?.getD undef = .bool false := HF.at rfl; go_simp) ?_
          clear HF b
          intro b HF
          refine listF rfl HF rfl (by decide) (v := .bool false) (by have e71 : b.tmps[71]?.getD undef = .bool true := HF.at rfl; have e103 : b.tmps[103]?.getD undef = .bool false := HF.at rfl; go_simp) ?_
          clear HF b
          intro b HF
          refine listF rfl HF rfl (by decide) (v := .bool false) (by have e69 : b.tmps[69]?.getD undef = .bool false := HF.at rfl; have e104 : b.tmps[104]?.getD undef = .bool false := HF.at rfl; go_simp) ?_
          clear HF b
          intro b HF
          show Code.wp _ _ _ _ _
          refine wp_cond_false (HF.get rfl) ?_
          refine wp_skip ?_
          show Code.wp _ _ _ _ _
          replace HF := HF.sub [(15, .bool is), (14, .pointer (some ⟨gx, 0, none⟩)), (9, .bool true), (4, .pointer (some ⟨W.heap.size, 0, none⟩)), (3, .string name), (2, .int .i64 0), (1, .slice L l.length lc)] (List.forall_mem_cons.2 ⟨rfl, (List.forall_mem_cons.2 ⟨rfl, (List.forall_mem_cons.2 ⟨rfl, (List.forall_mem_cons.2 ⟨rfl, (List.forall_mem_cons.2 ⟨rfl, (List.forall_mem_cons.2 ⟨rfl, (List.forall_mem_cons.2 ⟨rfl, by intro p_ hp_; cases hp_⟩)⟩)⟩)⟩)⟩)⟩)⟩)
          refine wp_seq ?_
          refine wp_seq ?_
          refine wp_region_lit ?_
          refine listF rfl HF rfl (by decide) (v := .int .i64 0) (by go_simp) ?_
          clear HF b
          intro b HF
          show Code.wp _ _ _ _ _
          refine lawLoop G6.out rfl GL.out HTN.out HF ⟨HX.out, HE.out, HB.out⟩ ?_ ?_
          case refine_2 => exact fun w' hb' => ⟨rfl, hb'⟩
          clear HF HX HE HB b
          rintro b wl HF hl ⟨rfl, rfl, rfl⟩
          have HL := Aside0.mk hl
          clear hl
          show Code.wp _ _ _ _ _
          refine wp_seq ?_
          refine wp_region_lit ?_
          refine listF rfl HF rfl (by decide) (v := .bool true) (by have e9 : b.tmps[9]?.getD undef = .bool true := HF.at rfl; go_simp) ?_
          clear HF b
          intro b HF
          refine listF rfl HF rfl (by decide) (v := .bool true) (by have e184 : b.tmps[184]?.getD undef = .bool true := HF.at rfl; go_simp) ?_
          clear HF b
          intro b HF
          refine listF rfl HF rfl (by decide) (v := .bool false) (by have e15 : b.tmps[15]?.getD undef = .bool false := HF.at rfl; go_simp) ?_
          clear HF b
          intro b HF
          refine listF rfl HF rfl (by decide) (v := .bool true) (by have e186 : b.tmps[186]?.getD undef = .bool false := HF.at rfl; go_simp) ?_
          clear HF b
          intro b HF
          refine listF rfl HF rfl (by decide) (v := .bool true) (by have e185 : b.tmps[185]?.getD undef = .bool true := HF.at rfl; have e187 : b.tmps[187]?.getD undef = .bool true := HF.at rfl; go_simp) ?_
          clear HF b
          intro b HF
          refine listF rfl HF rfl (by decide) (v := .bool true) (by have e188 : b.tmps[188]?.getD undef = .bool true := HF.at rfl; go_simp) ?_
          clear HF b
          intro b HF
          refine listF rfl HF rfl (by decide) (v := .agg #[.int .i64 0, .int .i64 0]) (by have e14 : b.tmps[14]?.getD undef = .pointer (some ⟨gx, 0, none⟩) := HF.at rfl; have c_0 : wl.cell? ⟨gx, 0, none⟩ = some (.int .i64 0) := HL.out.told.cell 0; have c_1 : wl.cell? ⟨gx, 1, none⟩ = some (.int .i64 0) := HL.out.told.cell 1; go_simp) ?_
          clear HF b
          intro b HF
          refine listF rfl HF rfl (by decide) (v := .agg #[.int .i64 0, .int .i64 0]) (by go_simp) ?_
          clear HF b
          intro b HF
          refine listF rfl HF rfl (by decide) (v := .bool true) (by have e190 : b.tmps[190]?.getD undef = .agg #[.int .i64 0, .int .i64 0] := HF.at rfl; have e191 : b.tmps[191]?.getD undef = .agg #[.int .i64 0, .int .i64 0] := HF.at rfl; go_simp) ?_
          clear HF b
          intro b HF
          refine listF rfl HF rfl (by decide) (v := .bool true) (by have e189 : b.tmps[189]?.getD undef = .bool true := HF.at rfl; have e192 : b.tmps[192]?.getD undef = .bool true := HF.at rfl; go_simp) ?_
          clear HF b
          intro b HF
          refine listF rfl HF rfl (by decide) (v := .bool true) (by have e193 : b.tmps[193]?.getD undef = .bool true := HF.at rfl; go_simp) ?_
          clear HF b
          intro b HF
          show Code.wp _ _ _ _ _
          refine wp_ret ?_
          exact bodyPost_ret (results_tmp rfl _ _ _) HF.none ⟨congrArg Ending.returned (HF.get (k := 8) rfl), HL.out.low⟩
        case neg =>
          refine wp_seq ?_
          refine wp_region_lit ?_
          refine listF rfl HF rfl (by decide) (v := .pointer (some ⟨s, 0, none⟩)) (by have e11 : b.tmps[11]?.getD undef = .pointer (some ⟨s, 0, none⟩) := HF.at rfl; go_simp) ?_
          clear HF b
          intro b HF
          refine listF rfl HF rfl (by decide) (v := .int .i64 inst) (by have e2 : b.tmps[2]?.getD undef = .int .i64 inst := HF.at rfl; go_simp) ?_
          clear HF b
          intro b HF
          refine listF rfl HF rfl (by decide) (v := .string name) (by have e3 : b.tmps[3]?.getD undef = .string name := HF.at rfl; go_simp) ?_
          clear HF b
          intro b HF
          refine listC rfl HF rfl (by decide) (fun K_ hK_ => ?_)
          have e49 : b.tmps[49]?.getD undef = .pointer (some ⟨s, 0, none⟩) := HF.at rfl
          have e50 : b.tmps[50]?.getD undef = .int .i64 inst := HF.at rfl
          have e51 : b.tmps[51]?.getD undef = .string name := HF.at rfl
          go_simp
          clear e49 e50 e51
          refine (exp_no HR.out inst hin name).mono ?_
          rintro e w8 ⟨rfl, hb_⟩
          replace HU := Aside0.mk (Kd.R_below HU.out hb_)
          replace HX := Aside0.mk (HX.out.below hb_ HX.out.lt)
          replace HR := Aside0.mk (HR.out.below hb_ HR.out.lt)
          replace HB := Aside0.mk (HB.out.trans (St.below_mono hb_ HB.out.size))
          clear hb_
          refine hK_.out _ _ ?_
          clear hK_ K_ HF b
          intro b HF
          refine listF rfl HF rfl (by decide) (v := .tuple #[.agg #[.int .i64 0, .int .i64 0], .bool false]) (by have e52 : b.tmps[52]?.getD undef = .tuple #[.agg #[.int .i64 0, .int .i64 0], .bool false] := HF.at rfl; go_simp) ?_
          clear HF b
          intro b HF
          refine listF rfl HF rfl (by decide) (v := .agg #[.int .i64 0, .int .i64 0]) (by have e48 : b.tmps[48]?.getD undef = .tuple #[.agg #[.int .i64 0, .int .i64 0], .bool false] := HF.at rfl; go_simp) ?_
          clear HF b
          intro b HF
          refine listF rfl HF rfl (by decide) (v := .bool false) (by have e48 : b.tmps[48]?.getD undef = .tuple #[.agg #[.int .i64 0, .int .i64 0], .bool false] := HF.at rfl; go_simp) ?_
          clear HF b
          intro b HF
          obtain ⟨gx, hgx⟩ : ∃ gx, gx = w8.heap.size := ⟨_, rfl⟩
          obtain ⟨w9, hw9⟩ : ∃ w9, w9 = w8.alloc (.cells #[.int .i64 0, .int .i64 0] 67) := ⟨_, rfl⟩
          have hb_ : Below w8.heap.size w8 w9 := by rw [hw9]; exact below_alloc (Below.refl _ _) _
          have HBU := Aside0.mk hb_
          have HE := Aside0.mk (show Row w9 gx 67 #[.int .i64 0, .int .i64 0] by rw [hw9, hgx]; exact St.Row.made _ _ _ rfl)
          have NHXgx := Aside0.mk (show W.heap.size ≠ gx from fun e => by have := HX.out.lt; rw [hgx] at e; omega)
          have NHRgx := Aside0.mk (show s ≠ gx from fun e => by have := HR.out.lt; rw [hgx] at e; omega)
          have HLgx := Aside0.mk (show W.heap.size ≤ gx by rw [hgx]; exact HB.out.size)
          replace HX := Aside0.mk (HX.out.below hb_ HX.out.lt)
          replace HR := Aside0.mk (HR.out.below hb_ HR.out.lt)
          replace HB := Aside0.mk (HB.out.trans (St.below_mono hb_ HB.out.size))
          have HA1 := Aside0.mk hgx; have HA2 := Aside0.mk hw9
          clear hb_ hgx hw9
          refine listM rfl HF rfl (by decide) (v := .pointer (some ⟨gx, 0, none⟩)) (w1 := w9) (by rw [HA2.out, HA1.out]; go_simp) ?_
          clear HF b
          intro b HF
          clear HA1 HA2
          have y0 : w9.cell? ⟨gx, 0, none⟩ = some (.int .i64 0) := HE.out.cell 0; have z0 := HE.out.frozen 0
          have y1 : w9.cell? ⟨gx, 1, none⟩ = some (.int .i64 0) := HE.out.cell 1; have z1 := HE.out.frozen 1
          have hbu : Below w8.heap.size w8 w9 := HBU.out
          refine listS (w1 := (w9.setCell ⟨gx, 0, none⟩ (.int .i64 0)).setCell ⟨gx, 1, none⟩ (.int .i64 0)) rfl HF rfl (by have e_ : b.tmps[53]?.getD undef = .agg #[.int .i64 0, .int .i64 0] := HF.at rfl; have f_ : b.tmps[14]?.getD undef = .pointer (some ⟨gx, 0, none⟩) := HF.at rfl; go_simp) ?_
          have r9 := HE.out
          replace HU := Aside0.mk (Kd.R_set (Kd.R_set (Kd.R_below HU.out hbu) r9 (by decide) 0 (.int .i64 0)) (r9.put_ 0 (.int .i64 0)) (by decide) 1 (.int .i64 0))
          replace HE := Aside0.mk ((HE.out.put_ 0 (.int .i64 0)).put_ 1 (.int .i64 0))
          replace HX := Aside0.mk ((HX.out.off (p := ⟨gx, 0, none⟩) NHXgx.out (.int .i64 0)).off (p := ⟨gx, 1, none⟩) NHXgx.out (.int .i64 0))
          replace HR := Aside0.mk ((HR.out.off (p := ⟨gx, 0, none⟩) NHRgx.out (.int .i64 0)).off (p := ⟨gx, 1, none⟩) NHRgx.out (.int .i64 0))
          replace HB := Aside0.mk ((HB.out.setCell (p := ⟨gx, 0, none⟩) HLgx.out (.int .i64 0)).setCell (p := ⟨gx, 1, none⟩) HLgx.out (.int .i64 0))
          clear y0 y1 z0 z1 r9 hbu HBU
          generalize (w9.setCell ⟨gx, 0, none⟩ (.int .i64 0)).setCell ⟨gx, 1, none⟩ (.int .i64 0) = w10 at HE HX HR HB HU ⊢
          replace HE := Aside0.mk (show Row w10 gx 67 #[.int .i64 0, .int .i64 0] from HE.out)
          refine listF rfl HF rfl (by decide) (v := .bool false) (by have e54 : b.tmps[54]?.getD undef = .bool false := HF.at rfl; go_simp) ?_
          clear HF b
          intro b HF
          show Code.wp _ _ _ _ _
          replace HF := HF.sub [(15, .bool false), (14, .pointer (some ⟨gx, 0, none⟩)), (13, .int .i64 0), (11, .pointer (some ⟨s, 0, none⟩)), (9, .bool true), (4, .pointer (some ⟨W.heap.size, 0, none⟩)), (3, .string name), (2, .int .i64 inst), (1, .slice L l.length lc)] (List.forall_mem_cons.2 ⟨rfl, (List.forall_mem_cons.2 ⟨rfl, (List.forall_mem_cons.2 ⟨rfl, (List.forall_mem_cons.2 ⟨rfl, (List.forall_mem_cons.2 ⟨rfl, (List.forall_mem_cons.2 ⟨rfl, (List.forall_mem_cons.2 ⟨rfl, (List.forall_mem_cons.2 ⟨rfl, (List.forall_mem_cons.2 ⟨rfl, by intro p_ hp_; cases hp_⟩)⟩)⟩)⟩)⟩)⟩)⟩)⟩)⟩)
          refine wp_seq ?_
          refine wp_region_lit ?_
          refine listF rfl HF rfl (by decide) (v := .pointer (some ⟨s, 0, none⟩)) (by have e11 : b.tmps[11]?.getD undef = .pointer (some ⟨s, 0, none⟩) := HF.at rfl; go_simp) ?_
          clear HF b
          intro b HF
          refine listF rfl HF rfl (by decide) (v := .int .i64 inst) (by have e2 : b.tmps[2]?.getD undef = .int .i64 inst := HF.at rfl; go_simp) ?_
          clear HF b
          intro b HF
          refine listC rfl HF rfl (by decide) (fun K_ hK_ => ?_)
          have e56 : b.tmps[56]?.getD undef = .pointer (some ⟨s, 0, none⟩) := HF.at rfl
          have e57 : b.tmps[57]?.getD undef = .int .i64 inst := HF.at rfl
          go_simp
          clear e56 e57
          refine (inst_no HR.out inst hin).mono ?_
          rintro e w11 ⟨rfl, hb_⟩
          replace HX := Aside0.mk (HX.out.below hb_ HX.out.lt)
          replace HE := Aside0.mk (HE.out.below hb_ HE.out.lt)
          replace HB := Aside0.mk (HB.out.trans (St.below_mono hb_ HB.out.size))
          clear hb_ HR HU NHRgx HLs
          refine hK_.out _ _ ?_
          clear hK_ K_ HF b
          intro b HF
          refine listF rfl HF rfl (by decide) (v := .tuple #[.agg #[.slice none 0 0, .slice none 0 0, .slice none 0 0, .slice none 0 0, .slice none 0 0, .slice none 0 0, .slice none 0 0, .int .i64 0, .slice none 0 0, .slice none 0 0, .slice none 0 0, .slice none 0 0, .slice none 0 0, .slice none 0 0, .slice none 0 0], .bool false]) (by have e58 : b.tmps[58]?.getD undef = .tuple #[.agg #[.slice none 0 0, .slice none 0 0, .slice none 0 0, .slice none 0 0, .slice none 0 0, .slice none 0 0, .slice none 0 0, .int .i64 0, .slice none 0 0, .slice none 0 0, .slice none 0 0, .slice none 0 0, .slice none 0 0, .slice none 0 0, .slice none 0 0], .bool false] := HF.at rfl; go_simp) ?_
          clear HF b
          intro b HF
          refine listF rfl HF rfl (by decide) (v := .agg #[.slice none 0 0, .slice none 0 0, .slice none 0 0, .slice none 0 0, .slice none 0 0, .slice none 0 0, .slice none 0 0, .int .i64 0, .slice none 0 0, .slice none 0 0, .slice none 0 0, .slice none 0 0, .slice none 0 0, .slice none 0 0, .slice none 0 0]) (by have e55 : b.tmps[55]?.getD undef = .tuple #[.agg #[.slice none 0 0, .slice none 0 0, .slice none 0 0, .slice none 0 0, .slice none 0 0, .slice none 0 0, .slice none 0 0, .int .i64 0, .slice none 0 0, .slice none 0 0, .slice none 0 0, .slice none 0 0, .slice none 0 0, .slice none 0 0, .slice none 0 0], .bool false] := HF.at rfl; go_simp) ?_
          clear HF b
          intro b HF
          refine listF rfl HF rfl (by decide) (v := .bool false) (by have e55 : b.tmps[55]?.getD undef = .tuple #[.agg #[.slice none 0 0, .slice none 0 0, .slice none 0 0, .slice none 0 0, .slice none 0 0, .slice none 0 0, .slice none 0 0, .int .i64 0, .slice none 0 0, .slice none 0 0, .slice none 0 0, .slice none 0 0, .slice none 0 0, .slice none 0 0, .slice none 0 0], .bool false] := HF.at rfl; go_simp) ?_
          clear HF b
          intro b HF
          obtain ⟨g16, hg16⟩ : ∃ g16, g16 = w11.heap.size := ⟨_, rfl⟩
          obtain ⟨w12, hw12⟩ : ∃ w12, w12 = w11.alloc (.cells #[.slice none 0 0, .slice none 0 0, .slice none 0 0, .slice none 0 0, .slice none 0 0, .slice none 0 0, .slice none 0 0, .int .i64 0, .slice none 0 0, .slice none 0 0, .slice none 0 0, .slice none 0 0, .slice none 0 0, .slice none 0 0, .slice none 0 0] 64) := ⟨_, rfl⟩
          have hb_ : Below w11.heap.size w11 w12 := by rw [hw12]; exact below_alloc (Below.refl _ _) _
          have HJ := Aside0.mk (show Row w12 g16 64 #[.slice none 0 0, .slice none 0 0, .slice none 0 0, .slice none 0 0, .slice none 0 0, .slice none 0 0, .slice none 0 0, .int .i64 0, .slice none 0 0, .slice none 0 0, .slice none 0 0, .slice none 0 0, .slice none 0 0, .slice none 0 0, .slice none 0 0] by rw [hw12, hg16]; exact St.Row.made _ _ _ rfl)
          have NHXg16 := Aside0.mk (show W.heap.size ≠ g16 from fun e => by have := HX.out.lt; rw [hg16] at e; omega)
          have NHEg16 := Aside0.mk (show gx ≠ g16 from fun e => by have := HE.out.lt; rw [hg16] at e; omega)
          have HLg16 := Aside0.mk (show W.heap.size ≤ g16 by rw [hg16]; exact HB.out.size)
          replace HX := Aside0.mk (HX.out.below hb_ HX.out.lt)
          replace HE := Aside0.mk (HE.out.below hb_ HE.out.lt)
          replace HB := Aside0.mk (HB.out.trans (St.below_mono hb_ HB.out.size))
          have HA1 := Aside0.mk hg16; have HA2 := Aside0.mk hw12
          clear hb_ hg16 hw12
          refine listM rfl HF rfl (by decide) (v := .pointer (some ⟨g16, 0, none⟩)) (w1 := w12) (by rw [HA2.out, HA1.out]; go_simp) ?_
          clear HF b
          intro b HF
          clear HA1 HA2
          have y0 : w12.cell? ⟨g16, 0, none⟩ = some (.slice none 0 0) := HJ.out.cell 0; have z0 := HJ.out.frozen 0
          have y1 : w12.cell? ⟨g16, 1, none⟩ = some (.slice none 0 0) := HJ.out.cell 1; have z1 := HJ.out.frozen 1
          have y2 : w12.cell? ⟨g16, 2, none⟩ = some (.slice none 0 0) := HJ.out.cell 2; have z2 := HJ.out.frozen 2
          have y3 : w12.cell? ⟨g16, 3, none⟩ = some (.slice none 0 0) := HJ.out.cell 3; have z3 := HJ.out.frozen 3
          have y4 : w12.cell? ⟨g16, 4, none⟩ = some (.slice none 0 0) := HJ.out.cell 4; have z4 := HJ.out.frozen 4
          have y5 : w12.cell? ⟨g16, 5, none⟩ = some (.slice none 0 0) := HJ.out.cell 5; have z5 := HJ.out.frozen 5
          have y6 : w12.cell? ⟨g16, 6, none⟩ = some (.slice none 0 0) := HJ.out.cell 6; have z6 := HJ.out.frozen 6
          have y7 : w12.cell? ⟨g16, 7, none⟩ = some (.int .i64 0) := HJ.out.cell 7; have z7 := HJ.out.frozen 7
          have y8 : w12.cell? ⟨g16, 8, none⟩ = some (.slice none 0 0) := HJ.out.cell 8; have z8 := HJ.out.frozen 8
          have y9 : w12.cell? ⟨g16, 9, none⟩ = some (.slice none 0 0) := HJ.out.cell 9; have z9 := HJ.out.frozen 9
          have y10 : w12.cell? ⟨g16, 10, none⟩ = some (.slice none 0 0) := HJ.out.cell 10; have z10 := HJ.out.frozen 10
          have y11 : w12.cell? ⟨g16, 11, none⟩ = some (.slice none 0 0) := HJ.out.cell 11; have z11 := HJ.out.frozen 11
          have y12 : w12.cell? ⟨g16, 12, none⟩ = some (.slice none 0 0) := HJ.out.cell 12; have z12 := HJ.out.frozen 12
          have y13 : w12.cell? ⟨g16, 13, none⟩ = some (.slice none 0 0) := HJ.out.cell 13; have z13 := HJ.out.frozen 13
          have y14 : w12.cell? ⟨g16, 14, none⟩ = some (.slice none 0 0) := HJ.out.cell 14; have z14 := HJ.out.frozen 14
          refine listS (w1 := put15 w12 g16 (.slice none 0 0) (.slice none 0 0) (.slice none 0 0) (.slice none 0 0) (.slice none 0 0) (.slice none 0 0) (.slice none 0 0) (.int .i64 0) (.slice none 0 0) (.slice none 0 0) (.slice none 0 0) (.slice none 0 0) (.slice none 0 0) (.slice none 0 0) (.slice none 0 0)) rfl HF rfl (by have e_ : b.tmps[59]?.getD undef = .agg #[.slice none 0 0, .slice none 0 0, .slice none 0 0, .slice none 0 0, .slice none 0 0, .slice none 0 0, .slice none 0 0, .int .i64 0, .slice none 0 0, .slice none 0 0, .slice none 0 0, .slice none 0 0, .slice none 0 0, .slice none 0 0, .slice none 0 0] := HF.at rfl; have f_ : b.tmps[16]?.getD undef = .pointer (some ⟨g16, 0, none⟩) := HF.at rfl; go_simp; rfl) ?_
          replace HJ := Aside0.mk (put15_row (a0 := .slice none 0 0) (a1 := .slice none 0 0) (a2 := .slice none 0 0) (a3 := .slice none 0 0) (a4 := .slice none 0 0) (a5 := .slice none 0 0) (a6 := .slice none 0 0) (a7 := .int .i64 0) (a8 := .slice none 0 0) (a9 := .slice none 0 0) (a10 := .slice none 0 0) (a11 := .slice none 0 0) (a12 := .slice none 0 0) (a13 := .slice none 0 0) (a14 := .slice none 0 0) HJ.out)
          replace HX := Aside0.mk ((put15_off (a0 := .slice none 0 0) (a1 := .slice none 0 0) (a2 := .slice none 0 0) (a3 := .slice none 0 0) (a4 := .slice none 0 0) (a5 := .slice none 0 0) (a6 := .slice none 0 0) (a7 := .int .i64 0) (a8 := .slice none 0 0) (a9 := .slice none 0 0) (a10 := .slice none 0 0) (a11 := .slice none 0 0) (a12 := .slice none 0 0) (a13 := .slice none 0 0) (a14 := .slice none 0 0) _ NHXg16.out).trans HX.out)
          replace HE := Aside0.mk ((put15_off (a0 := .slice none 0 0) (a1 := .slice none 0 0) (a2 := .slice none 0 0) (a3 := .slice none 0 0) (a4 := .slice none 0 0) (a5 := .slice none 0 0) (a6 := .slice none 0 0) (a7 := .int .i64 0) (a8 := .slice none 0 0) (a9 := .slice none 0 0) (a10 := .slice none 0 0) (a11 := .slice none 0 0) (a12 := .slice none 0 0) (a13 := .slice none 0 0) (a14 := .slice none 0 0) _ NHEg16.out).trans HE.out)
          replace HB := Aside0.mk (put15_below (a0 := .slice none 0 0) (a1 := .slice none 0 0) (a2 := .slice none 0 0) (a3 := .slice none 0 0) (a4 := .slice none 0 0) (a5 := .slice none 0 0) (a6 := .slice none 0 0) (a7 := .int .i64 0) (a8 := .slice none 0 0) (a9 := .slice none 0 0) (a10 := .slice none 0 0) (a11 := .slice none 0 0) (a12 := .slice none 0 0) (a13 := .slice none 0 0) (a14 := .slice none 0 0) HB.out HLg16.out)
          clear y0 z0 y1 z1 y2 z2 y3 z3 y4 z4 y5 z5 y6 z6 y7 z7 y8 z8 y9 z9 y10 z10 y11 z11 y12 z12 y13 z13 y14 z14
          generalize put15 w12 g16 (.slice none 0 0) (.slice none 0 0) (.slice none 0 0) (.slice none 0 0) (.slice none 0 0) (.slice none 0 0) (.slice none 0 0) (.int .i64 0) (.slice none 0 0) (.slice none 0 0) (.slice none 0 0) (.slice none 0 0) (.slice none 0 0) (.slice none 0 0) (.slice none 0 0) = w13 at HJ HX HE HB ⊢
          replace HJ := Aside0.mk (show Row w13 g16 64 #[.slice none 0 0, .slice none 0 0, .slice none 0 0, .slice none 0 0, .slice none 0 0, .slice none 0 0, .slice none 0 0, .int .i64 0, .slice none 0 0, .slice none 0 0, .slice none 0 0, .slice none 0 0, .slice none 0 0, .slice none 0 0, .slice none 0 0] from HJ.out)
          replace HX := Aside0.mk (show Row w13 W.heap.size 61 #[.slice A0 m.f0.length a0, .slice A1 m.f1.length a1, .slice A2 m.f2.length a2, .slice A3 m.f3.length a3, .slice A4 m.f4.length a4, .slice A5 m.f5.length a5, .slice A6 m.f6.length a6, .int .i64 m.f7, .slice A8 m.f8.length a8, .slice A9 m.f9.length a9, .slice A10 m.f10.length a10] from HX.out)
          replace HE := Aside0.mk (show Row w13 gx 67 #[.int .i64 0, .int .i64 0] from HE.out)
          refine listF rfl HF rfl (by decide) (v := .bool false) (by have e60 : b.tmps[60]?.getD undef = .bool false := HF.at rfl; go_simp) ?_
          clear HF b
          intro b HF
          show Code.wp _ _ _ _ _
          replace HF := HF.sub [(17, .bool false), (16, .pointer (some ⟨g16, 0, none⟩)), (15, .bool false), (14, .pointer (some ⟨gx, 0, none⟩)), (13, .int .i64 0), (9, .bool true), (4, .pointer (some ⟨W.heap.size, 0, none⟩)), (3, .string name), (2, .int .i64 inst), (1, .slice L l.length lc)] (List.forall_mem_cons.2 ⟨rfl, (List.forall_mem_cons.2 ⟨rfl, (List.forall_mem_cons.2 ⟨rfl, (List.forall_mem_cons.2 ⟨rfl, (List.forall_mem_cons.2 ⟨rfl, (List.forall_mem_cons.2 ⟨rfl, (List.forall_mem_cons.2 ⟨rfl, (List.forall_mem_cons.2 ⟨rfl, (List.forall_mem_cons.2 ⟨rfl, (List.forall_mem_cons.2 ⟨rfl, by intro p_ hp_; cases hp_⟩)⟩)⟩)⟩)⟩)⟩)⟩)⟩)⟩)⟩)
          refine wp_seq ?_
          refine wp_seq ?_
          refine wp_region_lit ?_
          have hi_ : (inst == 0) = false := beq_eq_false_iff_ne.2 hin
          refine listF rfl HF rfl (by decide) (v := .int .i64 0) (by have e13 : b.tmps[13]?.getD undef = .int .i64 0 := HF.at rfl; go_simp) ?_
          clear HF b
          intro b HF
          refine listF rfl HF rfl (by decide) (v := .bool false) (by have e61 : b.tmps[61]?.getD undef = .int .i64 0 := HF.at rfl; go_simp) ?_
          clear HF b
          intro b HF
          refine listF rfl HF rfl (by decide) (v := .bool false) (by have e62 : b.tmps[62]?.getD undef = .bool false := HF.at rfl; go_simp) ?_
          clear HF b
          intro b HF
          refine listF rfl HF rfl (by decide) (v := .bool false) (by have e17 : b.tmps[17]?.getD undef = .bool false := HF.at rfl; go_simp) ?_
          clear HF b
          intro b HF
          refine listF rfl HF rfl (by decide) (v := .int .i64 inst) (by have e2 : b.tmps[2]?.getD undef = .int .i64 inst := HF.at rfl; go_simp) ?_
          clear HF b
          intro b HF
          refine listF rfl HF rfl (by decide) (v := .bool false) (by have e65 : b.tmps[65]?.getD undef = .int .i64 inst := HF.at rfl; go_simp) ?_
          clear HF b
          intro b HF
          refine listF rfl HF rfl (by decide) (v := .bool false) (by have e64 : b.tmps[64]?.getD undef = .bool false := HF.at rfl; have e66 : b.tmps[66]?.getD undef = .bool false := HF.at rfl; go_simp) ?_
          clear HF b
          intro b HF
          refine listF rfl HF rfl (by decide) (v := .bool false) (by have e63 : b.tmps[63]?.getD undef = .bool false := HF.at rfl; have e67 : b.tmps[67]?.getD undef = .bool false := HF.at rfl; go_simp) ?_
          clear HF b
          intro b HF
          refine listF rfl HF rfl (by decide) (v := .bool false) (by have e68 : b.tmps[68]?.getD undef = .bool false := HF.at rfl; go_simp) ?_
          clear HF b
          intro b HF
          refine listF rfl HF rfl (by decide) (v := .bool false) (by have e17 : b.tmps[17]?.getD undef = .bool false := HF.at rfl; go_simp) ?_
          clear HF b
          intro b HF
          refine listF rfl HF rfl (by decide) (v := .bool false) (by have e70 : b.tmps[70]?.getD undef = .bool false := HF.at rfl; go_simp) ?_
          clear HF b
          intro b HF
          refine listO rfl HF rfl (by decide) ?_
          clear HF b
          intro b HF
          refine listO rfl HF rfl (by decide) ?_
          clear HF b
          intro b HF
          refine listO rfl HF rfl (by decide) ?_
          clear HF b
          intro b HF
          refine listO rfl HF rfl (by decide) ?_
          clear HF b
          intro b HF
          refine listO rfl HF rfl (by decide) ?_
          clear HF b
          intro b HF
          refine listO rfl HF rfl (by decide) ?_
          clear HF b
          intro b HF
          refine listO rfl HF rfl (by decide) ?_
          clear HF b
          intro b HF
          refine listO rfl HF rfl (by decide) ?_
          clear HF b
          intro b HF
          refine listO rfl HF rfl (by decide) ?_
          clear HF b
          intro b HF
          refine listO rfl HF rfl (by decide) ?_
          clear HF b
          intro b HF
          refine listO rfl HF rfl (by decide) ?_
          clear HF b
          intro b HF
          refine listO rfl HF rfl (by decide) ?_
          clear HF b
          intro b HF
          refine listO rfl HF rfl (by decide) ?_
          clear HF b
          intro b HF
          refine listO rfl HF rfl (by decide) ?_
          clear HF b
          intro b HF
          refine listO rfl HF rfl (by decide) ?_
          clear HF b
          intro b HF
          refine listO rfl HF rfl (by decide) ?_
          clear HF b
          intro b HF
          refine listO rfl HF rfl (by decide) ?_
          clear HF b
          intro b HF
          refine listO rfl HF rfl (by decide) ?_
          clear HF b
          intro b HF
          refine listO rfl HF rfl (by decide) ?_
          clear HF b
          intro b HF
          refine listO rfl HF rfl (by decide) ?_
          clear HF b
          intro b HF
          refine listO rfl HF rfl (by decide) ?_
          clear HF b
          intro b HF
          refine listO rfl HF rfl (by decide) ?_
          clear HF b
          intro b HF
          refine listO rfl HF rfl (by decide) ?_
          clear HF b
          intro b HF
          refine listO rfl HF rfl (by decide) ?_
          clear HF b
          intro b HF
          refine listO rfl HF rfl (by decide) ?_
          clear HF b
          intro b HF
          refine listO rfl HF rfl (by decide) ?_
          clear HF b
          intro b HF
          refine listO rfl HF rfl (by decide) ?_
          clear HF b
          intro b HF
          refine listO rfl HF rfl (by decide) ?_
          clear HF b
          intro b HF
          refine listO rfl HF rfl (by decide) ?_
          clear HF b
          intro b HF
          refine listO rfl HF rfl (by decide) ?_
          clear HF b
          intro b HF
          refine listO rfl HF rfl (by decide) ?_
          clear HF b
          intro b HF
          refine listO rfl HF rfl (by decide) ?_
          clear HF b
          intro b HF
          refine listF rfl HF rfl (by decide) (v := .bool false) (by have e71 : b.tmps[71]?.getD undef = .bool false := HF.at rfl; have e103 : b.tmps[103]?.getD undef = undef := HF.at rfl; go_simp) ?_
          clear HF b
          intro b HF
          refine listF rfl HF rfl (by decide) (v := .bool false) (by have e69 : b.tmps[69]?.getD undef = .bool false := HF.at rfl; have e104 : b.tmps[104]?.getD undef = .bool false := HF.at rfl; go_simp) ?_
          clear HF b
          intro b HF
          show Code.wp _ _ _ _ _
          refine wp_cond_false (HF.get rfl) ?_
          refine wp_skip ?_
          show Code.wp _ _ _ _ _
          replace HF := HF.sub [(15, .bool false), (14, .pointer (some ⟨gx, 0, none⟩)), (9, .bool true), (4, .pointer (some ⟨W.heap.size, 0, none⟩)), (3, .string name), (2, .int .i64 inst), (1, .slice L l.length lc)] (List.forall_mem_cons.2 ⟨rfl, (List.forall_mem_cons.2 ⟨rfl, (List.forall_mem_cons.2 ⟨rfl, (List.forall_mem_cons.2 ⟨rfl, (List.forall_mem_cons.2 ⟨rfl, (List.forall_mem_cons.2 ⟨rfl, (List.forall_mem_cons.2 ⟨rfl, by intro p_ hp_; cases hp_⟩)⟩)⟩)⟩)⟩)⟩)⟩)
          refine wp_seq ?_
          refine wp_seq ?_
          refine wp_region_lit ?_
          refine listF rfl HF rfl (by decide) (v := .int .i64 0) (by go_simp) ?_
          clear HF b
          intro b HF
          show Code.wp _ _ _ _ _
          refine lawNone hin rfl HF ⟨HX.out, HE.out, HB.out⟩ ?_
          clear HF HX HE HB b
          rintro b wl HF hl
          have HL := Aside0.mk hl
          clear hl
          show Code.wp _ _ _ _ _
          refine wp_seq ?_
          refine wp_region_lit ?_
          refine listF rfl HF rfl (by decide) (v := .bool true) (by have e9 : b.tmps[9]?.getD undef = .bool true := HF.at rfl; go_simp) ?_
          clear HF b
          intro b HF
          refine listF rfl HF rfl (by decide) (v := .bool true) (by have e184 : b.tmps[184]?.getD undef = .bool true := HF.at rfl; go_simp) ?_
          clear HF b
          intro b HF
          refine listF rfl HF rfl (by decide) (v := .bool false) (by have e15 : b.tmps[15]?.getD undef = .bool false := HF.at rfl; go_simp) ?_
          clear HF b
          intro b HF
          refine listF rfl HF rfl (by decide) (v := .bool true) (by have e186 : b.tmps[186]?.getD undef = .bool false := HF.at rfl; go_simp) ?_
          clear HF b
          intro b HF
          refine listF rfl HF rfl (by decide) (v := .bool true) (by have e185 : b.tmps[185]?.getD undef = .bool true := HF.at rfl; have e187 : b.tmps[187]?.getD undef = .bool true := HF.at rfl; go_simp) ?_
          clear HF b
          intro b HF
          refine listF rfl HF rfl (by decide) (v := .bool true) (by have e188 : b.tmps[188]?.getD undef = .bool true := HF.at rfl; go_simp) ?_
          clear HF b
          intro b HF
          refine listF rfl HF rfl (by decide) (v := .agg #[.int .i64 0, .int .i64 0]) (by have e14 : b.tmps[14]?.getD undef = .pointer (some ⟨gx, 0, none⟩) := HF.at rfl; have c_0 : wl.cell? ⟨gx, 0, none⟩ = some (.int .i64 0) := HL.out.told.cell 0; have c_1 : wl.cell? ⟨gx, 1, none⟩ = some (.int .i64 0) := HL.out.told.cell 1; go_simp) ?_
          clear HF b
          intro b HF
          refine listF rfl HF rfl (by decide) (v := .agg #[.int .i64 0, .int .i64 0]) (by go_simp) ?_
          clear HF b
          intro b HF
          refine listF rfl HF rfl (by decide) (v := .bool true) (by have e190 : b.tmps[190]?.getD undef = .agg #[.int .i64 0, .int .i64 0] := HF.at rfl; have e191 : b.tmps[191]?.getD undef = .agg #[.int .i64 0, .int .i64 0] := HF.at rfl; go_simp) ?_
          clear HF b
          intro b HF
          refine listF rfl HF rfl (by decide) (v := .bool true) (by have e189 : b.tmps[189]?.getD undef = .bool true := HF.at rfl; have e192 : b.tmps[192]?.getD undef = .bool true := HF.at rfl; go_simp) ?_
          clear HF b
          intro b HF
          refine listF rfl HF rfl (by decide) (v := .bool true) (by have e193 : b.tmps[193]?.getD undef = .bool true := HF.at rfl; go_simp) ?_
          clear HF b
          intro b HF
          show Code.wp _ _ _ _ _
          refine wp_ret ?_
          exact bodyPost_ret (results_tmp rfl _ _ _) HF.none ⟨congrArg Ending.returned (HF.get (k := 8) rfl), HL.out.low⟩
end Go.Proofs.Ytbelijoggbblgaa.Ex
