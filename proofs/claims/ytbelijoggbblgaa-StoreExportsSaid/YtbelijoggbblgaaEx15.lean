/- StoreExports: the loop over a module's exports answers as Export does. Printed by the program mkex15.py. -/
import Derived.Test.YtbelijoggbblgaaFw2
namespace Go.Proofs.Ytbelijoggbblgaa.Ex
open Go.RowKit Go.Proofs.YtbelijoggbblgaaW.PrintWords Go.Proofs.YtbelijoggbblgaaW.PrintLast Go.Proofs.Ytbelijoggbblgaa.RStoreExports
set_option linter.unusedVariables false
set_option linter.unusedSimpArgs false
/-- What the loop leaves as it is: the module's box, what Export told. -/
structure Lw (W w : World) (ca : Array Value) (gx : Nat) (k a : Int) : Prop where
  box : Row w W.heap.size 61 ca
  told : Row w gx 67 #[.int .i64 k, .int .i64 a]
  low : Below W.heap.size W w
theorem Lw.step {W w w' : World} {ca : Array Value} {gx : Nat} {k a : Int} (h : Lw W w ca gx k a) (hb : Below w.heap.size w w') : Lw W w' ca gx k a := ⟨h.box.below hb h.box.lt, h.told.below hb h.told.lt, h.low.trans (St.below_mono hb h.low.size)⟩
def lawE.T22 : Bool × List (List Nat × List Nat) := (true, [([], []), ([0], [0]), ([1], [1]), ([1, 2], [1, 2]), ([3, 1], [3]), ([4], [4]), ([5, 4], [4, 5]), ([4], [4]), ([7, 4], [4, 7]), ([6, 8, 4], [4, 6, 8]), ([4, 9], [4, 9]), ([10, 4], [10]), ([11], [11]), ([12, 11], [11, 12]), ([11], [11]), ([11], [11]), ([15, 11], [11, 15]), ([14, 16, 11], [11, 14, 16]), ([17, 11], [11, 17]), ([13, 18, 11], [11, 13, 18]), ([11, 19], [11, 19]), ([20, 11, 0, 1, 2, 3, 4, 5, 6, 7, 8, 9, 10, 11, 12, 13, 14, 15, 16, 17, 18, 19, 20], [20])])
def lawE.B22 : List Nat := [0, 1, 3, 7, 15, 31, 63, 31, 159, 511, 1023, 2047, 4095, 8191, 4095, 4095, 36863, 118783, 249855, 524287, 1048575, 2097151]
theorem lawE.tab22 : rtab .any (opsOf Try.f4 22) = lawE.T22 := by kernel_rfl
theorem lawE.bits22 : waitsOk lawE.T22.2 lawE.B22 = true := by kernel_rfl
set_option maxHeartbeats 4000000 in
set_option maxRecDepth 100000 in
theorem lawLoop {W : World} {m : S61} {ca : Array Value} {A6 : Option Addr} {c6 : Nat} {L : Option Addr} {lc gx : Nat} {l : List Int} {name : ByteArray} {kx ax : Int} {is : Bool} (g6 : k74.C W A6 m.f6.length m.f6) (h6 : ca[6]? = some (.slice A6 m.f6.length c6)) (gl : (Kd.int .i64).C W L l.length l)
    (ht : TellsN ⟨m, l, l, [], l⟩ name kx ax is) {K : Act → World → Prop} {R : Ending → World → Prop} {a1 : Act} {w1 : World} (hF : Fr 194 a1 [(18, .int .i64 0), (15, .bool is), (14, .pointer (some ⟨gx, 0, none⟩)), (9, .bool true), (4, .pointer (some ⟨W.heap.size, 0, none⟩)), (3, .string name), (2, .int .i64 0), (1, .slice L l.length lc)]) (hm : Lw W w1 ca gx kx ax)
    (hK : ∀ a' w', Fr 194 a' [(15, .bool is), (14, .pointer (some ⟨gx, 0, none⟩)), (9, .bool true)] → Lw W w' ca gx kx ax → kx = 0 ∧ ax = 0 ∧ is = false → K a' w') (hR : ∀ w', Below W.heap.size W w' → R (.returned (.bool true)) w') : (blockOf Try.f4 0).wp Try.prog (Exit.then K (bodyPost Try.prog Try.f4 R)) a1 w1 := by
  have G6 := Aside0.mk g6; have H6 := Aside0.mk h6; have GL := Aside0.mk gl; have HT := Aside0.mk ht; have HKK := Aside0.mk hK; have HRR := Aside0.mk hR
  clear g6 h6 gl ht hK hR
  refine wp_block ?_
  refine wp_loop_ghost (fun q_ b_ w_ => ∃ k : Int, 0 ≤ k ∧ (q_ : Int) + k = m.f6.length ∧ (∀ j : Int, 0 ≤ j → j < k → ((rd_T74 m.f6 j).f0 == name) = false) ∧ Fr 194 b_ [(18, .int .i64 k), (15, .bool is), (14, .pointer (some ⟨gx, 0, none⟩)), (9, .bool true), (4, .pointer (some ⟨W.heap.size, 0, none⟩)), (3, .string name), (2, .int .i64 0), (1, .slice L l.length lc)] ∧ Lw W w_ ca gx kx ax) m.f6.length ⟨0, Int.le_refl _, by omega, fun j h1 h2 => by omega, hF, hm⟩ ?_
  clear hF hm
  rintro q b wr ⟨k, hk0, hk1, hbe, HF, hm⟩
  have HM := Aside0.mk hm; have HBE := Aside0.mk hbe
  clear hm hbe
  refine wp_seq ?_
  refine wp_seq ?_
  refine wp_region_lit ?_
  by_cases hlt : k < (m.f6.length : Int)
  · have D0 := Aside0.mk (show decide (k < (m.f6.length : Int)) = true from decide_eq_true hlt)
    have ew : IntKind.i64.wrap (k + 1) = k + 1 := by have := Kd.C_max G6.out; rw [IntKind.wrap_i64]; omega
    have XA := Aside0.mk (show wr.cell? ⟨W.heap.size, 6, none⟩ = some (.slice A6 m.f6.length c6) from (HM.out.box.cell 6).trans H6.out)
    refine listF rfl HF rfl (by decide) (v := .int .i64 k) (by have e18 : b.tmps[18]?.getD undef = .int .i64 k := HF.at rfl; have d0_ := D0.out; go_simp) ?_
    clear HF b
    intro b HF
    refine listF rfl HF rfl (by decide) (v := .pointer (some ⟨W.heap.size, 6, none⟩)) (by have e4 : b.tmps[4]?.getD undef = .pointer (some ⟨W.heap.size, 0, none⟩) := HF.at rfl; have d0_ := D0.out; go_simp) ?_
    clear HF b
    intro b HF
    refine listF rfl HF rfl (by decide) (v := .slice A6 m.f6.length c6) (by have e107 : b.tmps[107]?.getD undef = .pointer (some ⟨W.heap.size, 6, none⟩) := HF.at rfl; have c_0 : wr.cell? ⟨W.heap.size, 6, none⟩ = some (.slice A6 m.f6.length c6) := XA.out; have d0_ := D0.out; go_simp) ?_
    clear HF b
    intro b HF
    refine listF rfl HF rfl (by decide) (v := .int .i64 (m.f6.length : Int)) (by have e108 : b.tmps[108]?.getD undef = .slice A6 m.f6.length c6 := HF.at rfl; have d0_ := D0.out; go_simp) ?_
    clear HF b
    intro b HF
    refine listF rfl HF rfl (by decide) (v := .bool true) (by have e106 : b.tmps[106]?.getD undef = .int .i64 k := HF.at rfl; have e109 : b.tmps[109]?.getD undef = .int .i64 (m.f6.length : Int) := HF.at rfl; have d0_ := D0.out; go_simp) ?_
    clear HF b
    intro b HF
    refine listF rfl HF rfl (by decide) (v := .bool true) (by have e110 : b.tmps[110]?.getD undef = .bool true := HF.at rfl; have d0_ := D0.out; go_simp) ?_
    clear HF b
    intro b HF
    refine listF rfl HF rfl (by decide) (v := .int .i64 0) (by have e2 : b.tmps[2]?.getD undef = .int .i64 0 := HF.at rfl; have d0_ := D0.out; go_simp) ?_
    clear HF b
    intro b HF
    refine listF rfl HF rfl (by decide) (v := .bool true) (by have e112 : b.tmps[112]?.getD undef = .int .i64 0 := HF.at rfl; have d0_ := D0.out; go_simp) ?_
    clear HF b
    intro b HF
    refine listF rfl HF rfl (by decide) (v := .bool true) (by have e111 : b.tmps[111]?.getD undef = .bool true := HF.at rfl; have e113 : b.tmps[113]?.getD undef = .bool true := HF.at rfl; have d0_ := D0.out; go_simp) ?_
    clear HF b
    intro b HF
    show Code.wp _ _ _ _ _
    refine wp_cond_true (HF.get rfl) ?_
    refine wp_skip ?_
    show Code.wp _ _ _ _ _
    refine wp_seq ?_
    refine wp_block ?_
    refine wp_seq ?_
    refine wp_region_lit ?_
    replace HF := HF.sub [(18, .int .i64 k), (15, .bool is), (14, .pointer (some ⟨gx, 0, none⟩)), (9, .bool true), (4, .pointer (some ⟨W.heap.size, 0, none⟩)), (3, .string name), (2, .int .i64 0), (1, .slice L l.length lc)] (List.forall_mem_cons.2 ⟨rfl, (List.forall_mem_cons.2 ⟨rfl, (List.forall_mem_cons.2 ⟨rfl, (List.forall_mem_cons.2 ⟨rfl, (List.forall_mem_cons.2 ⟨rfl, (List.forall_mem_cons.2 ⟨rfl, (List.forall_mem_cons.2 ⟨rfl, (List.forall_mem_cons.2 ⟨rfl, by intro p_ hp_; cases hp_⟩)⟩)⟩)⟩)⟩)⟩)⟩)⟩)
    clear XA
    have XA := Aside0.mk (show wr.cell? ⟨W.heap.size, 6, none⟩ = some (.slice A6 m.f6.length c6) from (HM.out.box.cell 6).trans H6.out)
    obtain ⟨ad, eA, q0, q1, q2⟩ := at_T74 G6.out k hk0 hlt
    cases eA
    obtain ⟨y, hy⟩ : ∃ y, y = rd_T74 m.f6 k := ⟨_, rfl⟩
    rw [← hy] at q0 q1 q2
    replace q0 := (HM.out.low.cell (World.block_lt_of_cell? W _ q0)).trans q0
    replace q1 := (HM.out.low.cell (World.block_lt_of_cell? W _ q1)).trans q1
    replace q2 := (HM.out.low.cell (World.block_lt_of_cell? W _ q2)).trans q2
    have HY := Aside0.mk hy
    have HQ0 := Aside0.mk q0; have HQ1 := Aside0.mk q1; have HQ2 := Aside0.mk q2
    clear hy q0 q1 q2
    have d1_ : decide (0 ≤ k) = true := decide_eq_true hk0
    have d2_ : decide (k < (m.f6.length : Int)) = true := decide_eq_true hlt
    refine listF rfl HF rfl (by decide) (v := .pointer (some ⟨W.heap.size, 6, none⟩)) (by have e4 : b.tmps[4]?.getD undef = .pointer (some ⟨W.heap.size, 0, none⟩) := HF.at rfl; go_simp) ?_
    clear HF b
    intro b HF
    refine listF rfl HF rfl (by decide) (v := .slice (some ad) m.f6.length c6) (by have e117 : b.tmps[117]?.getD undef = .pointer (some ⟨W.heap.size, 6, none⟩) := HF.at rfl; have c_0 : wr.cell? ⟨W.heap.size, 6, none⟩ = some (.slice (some ad) m.f6.length c6) := XA.out; go_simp) ?_
    clear HF b
    intro b HF
    refine listF rfl HF rfl (by decide) (v := .int .i64 k) (by have e18 : b.tmps[18]?.getD undef = .int .i64 k := HF.at rfl; go_simp) ?_
    clear HF b
    intro b HF
    refine listF rfl HF rfl (by decide) (v := .pointer (some (ad.add (k.toNat * 3)))) (by have e118 : b.tmps[118]?.getD undef = .slice (some ad) m.f6.length c6 := HF.at rfl; have e119 : b.tmps[119]?.getD undef = .int .i64 k := HF.at rfl; go_simp) ?_
    clear HF b
    intro b HF
    refine listF rfl HF rfl (by decide) (v := .agg #[.string y.f0, .int .i64 y.f1, .int .i64 y.f2]) (by have e120 : b.tmps[120]?.getD undef = .pointer (some (ad.add (k.toNat * 3))) := HF.at rfl; have c_0 : wr.cell? (ad.add (k.toNat * 3)) = some (.string y.f0) := HQ0.out; have c_1 : wr.cell? ⟨(ad.add (k.toNat * 3)).block, (ad.add (k.toNat * 3)).off + 1, none⟩ = some (.int .i64 y.f1) := HQ1.out; have c_2 : wr.cell? ⟨(ad.add (k.toNat * 3)).block, (ad.add (k.toNat * 3)).off + 2, none⟩ = some (.int .i64 y.f2) := HQ2.out; go_simp) ?_
    clear HF b
    intro b HF
    obtain ⟨g19, hg19⟩ : ∃ g19, g19 = wr.heap.size := ⟨_, rfl⟩
    obtain ⟨w6, hw6⟩ : ∃ w6, w6 = wr.alloc (.cells #[.string ⟨#[]⟩, .int .i64 0, .int .i64 0] 74) := ⟨_, rfl⟩
    have hb6 : Below wr.heap.size wr w6 := by rw [hw6]; exact below_alloc (Below.refl _ _) _
    have HG := Aside0.mk (show Row w6 g19 74 #[.string ⟨#[]⟩, .int .i64 0, .int .i64 0] by rw [hw6, hg19]; exact St.Row.made _ _ _ rfl)
    have HB0 := Aside0.mk (show Below wr.heap.size wr w6 from hb6)
    have HW6 := Aside0.mk hw6; have HG19 := Aside0.mk hg19
    clear hw6 hb6 hg19
    refine listM rfl HF rfl (by decide) (v := .pointer (some ⟨g19, 0, none⟩)) (w1 := w6) (by rw [HW6.out, HG19.out]; go_simp) ?_
    clear HF b
    intro b HF
    have y0 : w6.cell? ⟨g19, 0, none⟩ = some (.string ⟨#[]⟩) := HG.out.cell 0; have z0 := HG.out.frozen 0
    have y1 : w6.cell? ⟨g19, 1, none⟩ = some (.int .i64 0) := HG.out.cell 1; have z1 := HG.out.frozen 1
    have y2 : w6.cell? ⟨g19, 2, none⟩ = some (.int .i64 0) := HG.out.cell 2; have z2 := HG.out.frozen 2
    refine listS (w1 := ((w6.setCell ⟨g19, 0, none⟩ (.string y.f0)).setCell ⟨g19, 1, none⟩ (.int .i64 y.f1)).setCell ⟨g19, 2, none⟩ (.int .i64 y.f2)) rfl HF rfl (by have e121 : b.tmps[121]?.getD undef = .agg #[.string y.f0, .int .i64 y.f1, .int .i64 y.f2] := HF.at rfl; have e19 : b.tmps[19]?.getD undef = .pointer (some ⟨g19, 0, none⟩) := HF.at rfl; go_simp) ?_
    replace HG := Aside0.mk (((HG.out.put_ 0 (.string y.f0)).put_ 1 (.int .i64 y.f1)).put_ 2 (.int .i64 y.f2))
    have hle : wr.heap.size ≤ g19 := by rw [HG19.out]; exact Nat.le_refl _
    replace HM := Aside0.mk (HM.out.step (((HB0.out.setCell (p := ⟨g19, 0, none⟩) hle (.string y.f0)).setCell (p := ⟨g19, 1, none⟩) hle (.int .i64 y.f1)).setCell (p := ⟨g19, 2, none⟩) hle (.int .i64 y.f2)))
    clear y0 y1 y2 z0 z1 z2 HW6 HG19 HB0 hle HQ0 HQ1 HQ2 XA
    generalize ((w6.setCell ⟨g19, 0, none⟩ (.string y.f0)).setCell ⟨g19, 1, none⟩ (.int .i64 y.f1)).setCell ⟨g19, 2, none⟩ (.int .i64 y.f2) = w7 at HG HM ⊢
    replace HG := Aside0.mk (show Row w7 g19 74 #[.string y.f0, .int .i64 y.f1, .int .i64 y.f2] from HG.out)
    show Code.wp _ _ _ _ _
    refine wp_seq ?_
    refine wp_region_lit ?_
    refine listF rfl HF rfl (by decide) (v := .pointer (some ⟨g19, 0, none⟩)) (by have e19 : b.tmps[19]?.getD undef = .pointer (some ⟨g19, 0, none⟩) := HF.at rfl; go_simp) ?_
    clear HF b
    intro b HF
    refine listF rfl HF rfl (by decide) (v := .string y.f0) (by have e122 : b.tmps[122]?.getD undef = .pointer (some ⟨g19, 0, none⟩) := HF.at rfl; have c_0 : w7.cell? ⟨g19, 0, none⟩ = some (.string y.f0) := HG.out.cell 0; go_simp) ?_
    clear HF b
    intro b HF
    refine listF rfl HF rfl (by decide) (v := .string name) (by have e3 : b.tmps[3]?.getD undef = .string name := HF.at rfl; go_simp) ?_
    clear HF b
    intro b HF
    have ebt : (y.f0 == name) = (y.f0.toList == name.toList) := Go.beq_toListBytes _ _
    cases hn : (y.f0 == name)
    · have HH := Aside0.mk hn
      rw [hn] at ebt
      have EB := Aside0.mk ebt.symm
      clear hn ebt
      refine listF rfl HF rfl (by decide) (v := .bool false) (by have e123 : b.tmps[123]?.getD undef = .string y.f0 := HF.at rfl; have e124 : b.tmps[124]?.getD undef = .string name := HF.at rfl; have eb_ := EB.out; go_simp) ?_
      clear HF b
      intro b HF
      show Code.wp _ _ _ _ _
      refine wp_cond_false (HF.get rfl) ?_
      refine wp_skip ?_
      show Code.wp _ _ _ _ _
      refine wp_region_lit ?_
      replace HF := HF.sub [(18, .int .i64 k), (15, .bool is), (14, .pointer (some ⟨gx, 0, none⟩)), (9, .bool true), (4, .pointer (some ⟨W.heap.size, 0, none⟩)), (3, .string name), (2, .int .i64 0), (1, .slice L l.length lc)] (List.forall_mem_cons.2 ⟨rfl, (List.forall_mem_cons.2 ⟨rfl, (List.forall_mem_cons.2 ⟨rfl, (List.forall_mem_cons.2 ⟨rfl, (List.forall_mem_cons.2 ⟨rfl, (List.forall_mem_cons.2 ⟨rfl, (List.forall_mem_cons.2 ⟨rfl, (List.forall_mem_cons.2 ⟨rfl, by intro p_ hp_; cases hp_⟩)⟩)⟩)⟩)⟩)⟩)⟩)⟩)
      refine listF rfl HF rfl (by decide) (v := .int .i64 k) (by have e18 : b.tmps[18]?.getD undef = .int .i64 k := HF.at rfl; go_simp) ?_
      clear HF b
      intro b HF
      refine listF rfl HF rfl (by decide) (v := .int .i64 (k + 1)) (by have e115 : b.tmps[115]?.getD undef = .int .i64 k := HF.at rfl; go_simp) ?_
      clear HF b
      intro b HF
      refine listF rfl HF rfl (by decide) (v := .int .i64 (k + 1)) (by have e116 : b.tmps[116]?.getD undef = .int .i64 (k + 1) := HF.at rfl; go_simp) ?_
      clear HF b
      intro b HF
      refine ⟨(m.f6.length - (k + 1).toNat : Nat), by omega, k + 1, by omega, by omega, fun j h1 h2 => ?_, HF.sub _ (List.forall_mem_cons.2 ⟨rfl, (List.forall_mem_cons.2 ⟨rfl, (List.forall_mem_cons.2 ⟨rfl, (List.forall_mem_cons.2 ⟨rfl, (List.forall_mem_cons.2 ⟨rfl, (List.forall_mem_cons.2 ⟨rfl, (List.forall_mem_cons.2 ⟨rfl, (List.forall_mem_cons.2 ⟨rfl, by intro p_ hp_; cases hp_⟩)⟩)⟩)⟩)⟩)⟩)⟩)⟩), HM.out⟩
      by_cases e : j = k
      · rw [e, ← HY.out]; exact HH.out
      · exact HBE.out j h1 (by omega)
    · have HH := Aside0.mk hn
      rw [hn] at ebt
      have EB := Aside0.mk ebt.symm
      clear hn ebt
      have HTE := Aside0.mk (show Tells ⟨m, l, l, [], l⟩ y kx ax is by
        obtain ⟨j, hj, hh⟩ := HT.out
        have := first_same hj hk0 hlt (by rw [← HY.out]; exact HH.out) HBE.out
        subst this
        rcases hh with ⟨h, _⟩ | ⟨_, h⟩
        · omega
        · rw [HY.out]; exact h)
      refine listF rfl HF rfl (by decide) (v := .bool true) (by have e123 : b.tmps[123]?.getD undef = .string y.f0 := HF.at rfl; have e124 : b.tmps[124]?.getD undef = .string name := HF.at rfl; have eb_ := EB.out; go_simp) ?_
      clear HF b
      intro b HF
      show Code.wp _ _ _ _ _
      refine wp_cond_true (HF.get rfl) ?_
      refine wp_seq ?_
      replace HF := HF.sub [(19, .pointer (some ⟨g19, 0, none⟩)), (15, .bool is), (14, .pointer (some ⟨gx, 0, none⟩)), (9, .bool true), (1, .slice L l.length lc)] (List.forall_mem_cons.2 ⟨rfl, (List.forall_mem_cons.2 ⟨rfl, (List.forall_mem_cons.2 ⟨rfl, (List.forall_mem_cons.2 ⟨rfl, (List.forall_mem_cons.2 ⟨rfl, by intro p_ hp_; cases hp_⟩)⟩)⟩)⟩)⟩)
      refine cutW (A := fun a_ w_ => w_ = w7 ∧ ∃ ok : Bool, (ok = true ↔ okE l y) ∧ Fr 194 a_ ((20, .bool ok) :: [(19, .pointer (some ⟨g19, 0, none⟩)), (15, .bool is), (14, .pointer (some ⟨gx, 0, none⟩)), (9, .bool true), (1, .slice L l.length lc)])) ?_ ?_
      · refine wp_region_lit ?_
        by_cases k0 : 0 ≤ y.f1
        case neg =>
          have d0_ : decide (0 ≤ y.f1) = false := decide_eq_false k0
          refine listF rfl HF rfl (by decide) (v := .pointer (some ⟨g19, 1, none⟩)) (by have e19 : b.tmps[19]?.getD undef = .pointer (some ⟨g19, 0, none⟩) := HF.at rfl; go_simp) ?_
          clear HF b
          intro b HF
          refine listF rfl HF rfl (by decide) (v := .int .i64 y.f1) (by have e126 : b.tmps[126]?.getD undef = .pointer (some ⟨g19, 1, none⟩) := HF.at rfl; have c_0 : w7.cell? ⟨g19, 1, none⟩ = some (.int .i64 y.f1) := HG.out.cell 1; go_simp) ?_
          clear HF b
          intro b HF
          refine listF rfl HF rfl (by decide) (v := .bool false) (by have e127 : b.tmps[127]?.getD undef = .int .i64 y.f1 := HF.at rfl; go_simp) ?_
          clear HF b
          intro b HF
          refine listF rfl HF rfl (by decide) (v := .bool false) (by have e128 : b.tmps[128]?.getD undef = .bool false := HF.at rfl; go_simp) ?_
          clear HF b
          intro b HF
          refine listO rfl HF rfl (by decide) ?_
          clear HF b
          intro b HF
          refine listO rfl HF rfl (by decide) ?_
          clear HF b
          intro b HF
          refine listO rfl HF rfl (by decide) ?_
          clear HF b
          intro b HF
          refine listF rfl HF rfl (by decide) (v := .bool false) (by have e129 : b.tmps[129]?.getD undef = .bool false := HF.at rfl; have e132 : b.tmps[132]?.getD undef = undef := HF.at rfl; go_simp) ?_
          clear HF b
          intro b HF
          refine listF rfl HF rfl (by decide) (v := .bool false) (by have e133 : b.tmps[133]?.getD undef = .bool false := HF.at rfl; go_simp) ?_
          clear HF b
          intro b HF
          refine listO rfl HF rfl (by decide) ?_
          clear HF b
          intro b HF
          refine listO rfl HF rfl (by decide) ?_
          clear HF b
          intro b HF
          refine listO rfl HF rfl (by decide) ?_
          clear HF b
          intro b HF
          refine listF rfl HF rfl (by decide) (v := .bool false) (by have e134 : b.tmps[134]?.getD undef = .bool false := HF.at rfl; have e137 : b.tmps[137]?.getD undef = undef := HF.at rfl; go_simp) ?_
          clear HF b
          intro b HF
          refine listF rfl HF rfl (by decide) (v := .bool false) (by have e138 : b.tmps[138]?.getD undef = .bool false := HF.at rfl; go_simp) ?_
          clear HF b
          intro b HF
          refine listO rfl HF rfl (by decide) ?_
          clear HF b
          intro b HF
          refine listO rfl HF rfl (by decide) ?_
          clear HF b
          intro b HF
          refine listO rfl HF rfl (by decide) ?_
          clear HF b
          intro b HF
          refine listF rfl HF rfl (by decide) (v := .bool false) (by have e139 : b.tmps[139]?.getD undef = .bool false := HF.at rfl; have e142 : b.tmps[142]?.getD undef = undef := HF.at rfl; go_simp) ?_
          clear HF b
          intro b HF
          refine listF rfl HF rfl (by decide) (v := .bool false) (by have e143 : b.tmps[143]?.getD undef = .bool false := HF.at rfl; go_simp) ?_
          clear HF b
          intro b HF
          refine listO rfl HF rfl (by decide) ?_
          clear HF b
          intro b HF
          refine listO rfl HF rfl (by decide) ?_
          clear HF b
          intro b HF
          refine listO rfl HF rfl (by decide) ?_
          clear HF b
          intro b HF
          refine listO rfl HF rfl (by decide) ?_
          clear HF b
          intro b HF
          refine listO rfl HF rfl (by decide) ?_
          clear HF b
          intro b HF
          refine listF rfl HF rfl (by decide) (v := .bool false) (by have e144 : b.tmps[144]?.getD undef = .bool false := HF.at rfl; have e149 : b.tmps[149]?.getD undef = undef := HF.at rfl; go_simp) ?_
          clear HF b
          intro b HF
          refine listF rfl HF rfl (by decide) (v := .bool false) (by have e150 : b.tmps[150]?.getD undef = .bool false := HF.at rfl; go_simp) ?_
          clear HF b
          intro b HF
          exact ⟨rfl, false, ⟨(fun h => by cases h), (fun h => by exfalso; unfold okE at h; omega)⟩, HF.sub _ (List.forall_mem_cons.2 ⟨rfl, (List.forall_mem_cons.2 ⟨rfl, (List.forall_mem_cons.2 ⟨rfl, (List.forall_mem_cons.2 ⟨rfl, (List.forall_mem_cons.2 ⟨rfl, (List.forall_mem_cons.2 ⟨rfl, by intro p_ hp_; cases hp_⟩)⟩)⟩)⟩)⟩)⟩)⟩
        case pos =>
          by_cases k1 : y.f1 ≤ 3
          case neg =>
            have d0_ : decide (0 ≤ y.f1) = true := decide_eq_true k0
            have d1_ : decide (y.f1 ≤ 3) = false := decide_eq_false k1
            refine listF rfl HF rfl (by decide) (v := .pointer (some ⟨g19, 1, none⟩)) (by have e19 : b.tmps[19]?.getD undef = .pointer (some ⟨g19, 0, none⟩) := HF.at rfl; go_simp) ?_
            clear HF b
            intro b HF
            refine listF rfl HF rfl (by decide) (v := .int .i64 y.f1) (by have e126 : b.tmps[126]?.getD undef = .pointer (some ⟨g19, 1, none⟩) := HF.at rfl; have c_0 : w7.cell? ⟨g19, 1, none⟩ = some (.int .i64 y.f1) := HG.out.cell 1; go_simp) ?_
            clear HF b
            intro b HF
            refine listF rfl HF rfl (by decide) (v := .bool true) (by have e127 : b.tmps[127]?.getD undef = .int .i64 y.f1 := HF.at rfl; go_simp) ?_
            clear HF b
            intro b HF
            refine listF rfl HF rfl (by decide) (v := .bool true) (by have e128 : b.tmps[128]?.getD undef = .bool true := HF.at rfl; go_simp) ?_
            clear HF b
            intro b HF
            refine listF rfl HF rfl (by decide) (v := .pointer (some ⟨g19, 1, none⟩)) (by have e19 : b.tmps[19]?.getD undef = .pointer (some ⟨g19, 0, none⟩) := HF.at rfl; go_simp) ?_
            clear HF b
            intro b HF
            refine listF rfl HF rfl (by decide) (v := .int .i64 y.f1) (by have e130 : b.tmps[130]?.getD undef = .pointer (some ⟨g19, 1, none⟩) := HF.at rfl; have c_0 : w7.cell? ⟨g19, 1, none⟩ = some (.int .i64 y.f1) := HG.out.cell 1; go_simp) ?_
            clear HF b
            intro b HF
            refine listF rfl HF rfl (by decide) (v := .bool false) (by have e131 : b.tmps[131]?.getD undef = .int .i64 y.f1 := HF.at rfl; go_simp) ?_
            clear HF b
            intro b HF
            refine listF rfl HF rfl (by decide) (v := .bool false) (by have e129 : b.tmps[129]?.getD undef = .bool true := HF.at rfl; have e132 : b.tmps[132]?.getD undef = .bool false := HF.at rfl; go_simp) ?_
            clear HF b
            intro b HF
            refine listF rfl HF rfl (by decide) (v := .bool false) (by have e133 : b.tmps[133]?.getD undef = .bool false := HF.at rfl; go_simp) ?_
            clear HF b
            intro b HF
            refine listO rfl HF rfl (by decide) ?_
            clear HF b
            intro b HF
            refine listO rfl HF rfl (by decide) ?_
            clear HF b
            intro b HF
            refine listO rfl HF rfl (by decide) ?_
            clear HF b
            intro b HF
            refine listF rfl HF rfl (by decide) (v := .bool false) (by have e134 : b.tmps[134]?.getD undef = .bool false := HF.at rfl; have e137 : b.tmps[137]?.getD undef = undef := HF.at rfl; go_simp) ?_
            clear HF b
            intro b HF
            refine listF rfl HF rfl (by decide) (v := .bool false) (by have e138 : b.tmps[138]?.getD undef = .bool false := HF.at rfl; go_simp) ?_
            clear HF b
            intro b HF
            refine listO rfl HF rfl (by decide) ?_
            clear HF b
            intro b HF
            refine listO rfl HF rfl (by decide) ?_
            clear HF b
            intro b HF
            refine listO rfl HF rfl (by decide) ?_
            clear HF b
            intro b HF
            refine listF rfl HF rfl (by decide) (v := .bool false) (by have e139 : b.tmps[139]?.getD undef = .bool false := HF.at rfl; have e142 : b.tmps[142]?.getD undef = undef := HF.at rfl; go_simp) ?_
            clear HF b
            intro b HF
            refine listF rfl HF rfl (by decide) (v := .bool false) (by have e143 : b.tmps[143]?.getD undef = .bool false := HF.at rfl; go_simp) ?_
            clear HF b
            intro b HF
            refine listO rfl HF rfl (by decide) ?_
            clear HF b
            intro b HF
            refine listO rfl HF rfl (by decide) ?_
            clear HF b
            intro b HF
            refine listO rfl HF rfl (by decide) ?_
            clear HF b
            intro b HF
            refine listO rfl HF rfl (by decide) ?_
            clear HF b
            intro b HF
            refine listO rfl HF rfl (by decide) ?_
            clear HF b
            intro b HF
            refine listF rfl HF rfl (by decide) (v := .bool false) (by have e144 : b.tmps[144]?.getD undef = .bool false := HF.at rfl; have e149 : b.tmps[149]?.getD undef = undef := HF.at rfl; go_simp) ?_
            clear HF b
            intro b HF
            refine listF rfl HF rfl (by decide) (v := .bool false) (by have e150 : b.tmps[150]?.getD undef = .bool false := HF.at rfl; go_simp) ?_
            clear HF b
            intro b HF
            exact ⟨rfl, false, ⟨(fun h => by cases h), (fun h => by exfalso; unfold okE at h; omega)⟩, HF.sub _ (List.forall_mem_cons.2 ⟨rfl, (List.forall_mem_cons.2 ⟨rfl, (List.forall_mem_cons.2 ⟨rfl, (List.forall_mem_cons.2 ⟨rfl, (List.forall_mem_cons.2 ⟨rfl, (List.forall_mem_cons.2 ⟨rfl, by intro p_ hp_; cases hp_⟩)⟩)⟩)⟩)⟩)⟩)⟩
          case pos =>
            by_cases k2 : y.f1 ≠ 2
            case neg =>
              have d0_ : decide (0 ≤ y.f1) = true := decide_eq_true k0
              have d1_ : decide (y.f1 ≤ 3) = true := decide_eq_true k1
              have d2_ : (y.f1 != 2) = false := by simpa using k2
              refine listF rfl HF rfl (by decide) (v := .pointer (some ⟨g19, 1, none⟩)) (by have e19 : b.tmps[19]?.getD undef = .pointer (some ⟨g19, 0, none⟩) := HF.at rfl; go_simp) ?_
              clear HF b
              intro b HF
              refine listF rfl HF rfl (by decide) (v := .int .i64 y.f1) (by have e126 : b.tmps[126]?.getD undef = .pointer (some ⟨g19, 1, none⟩) := HF.at rfl; have c_0 : w7.cell? ⟨g19, 1, none⟩ = some (.int .i64 y.f1) := HG.out.cell 1; go_simp) ?_
              clear HF b
              intro b HF
              refine listF rfl HF rfl (by decide) (v := .bool true) (by have e127 : b.tmps[127]?.getD undef = .int .i64 y.f1 := HF.at rfl; go_simp) ?_
              clear HF b
              intro b HF
              refine listF rfl HF rfl (by decide) (v := .bool true) (by have e128 : b.tmps[128]?.getD undef = .bool true := HF.at rfl; go_simp) ?_
              clear HF b
              intro b HF
              refine listF rfl HF rfl (by decide) (v := .pointer (some ⟨g19, 1, none⟩)) (by have e19 : b.tmps[19]?.getD undef = .pointer (some ⟨g19, 0, none⟩) := HF.at rfl; go_simp) ?_
              clear HF b
              intro b HF
              refine listF rfl HF rfl (by decide) (v := .int .i64 y.f1) (by have e130 : b.tmps[130]?.getD undef = .pointer (some ⟨g19, 1, none⟩) := HF.at rfl; have c_0 : w7.cell? ⟨g19, 1, none⟩ = some (.int .i64 y.f1) := HG.out.cell 1; go_simp) ?_
              clear HF b
              intro b HF
              refine listF rfl HF rfl (by decide) (v := .bool true) (by have e131 : b.tmps[131]?.getD undef = .int .i64 y.f1 := HF.at rfl; go_simp) ?_
              clear HF b
              intro b HF
              refine listF rfl HF rfl (by decide) (v := .bool true) (by have e129 : b.tmps[129]?.getD undef = .bool true := HF.at rfl; have e132 : b.tmps[132]?.getD undef = .bool true := HF.at rfl; go_simp) ?_
              clear HF b
              intro b HF
              refine listF rfl HF rfl (by decide) (v := .bool true) (by have e133 : b.tmps[133]?.getD undef = .bool true := HF.at rfl; go_simp) ?_
              clear HF b
              intro b HF
              refine listF rfl HF rfl (by decide) (v := .pointer (some ⟨g19, 1, none⟩)) (by have e19 : b.tmps[19]?.getD undef = .pointer (some ⟨g19, 0, none⟩) := HF.at rfl; go_simp) ?_
              clear HF b
              intro b HF
              refine listF rfl HF rfl (by decide) (v := .int .i64 y.f1) (by have e135 : b.tmps[135]?.getD undef = .pointer (some ⟨g19, 1, none⟩) := HF.at rfl; have c_0 : w7.cell? ⟨g19, 1, none⟩ = some (.int .i64 y.f1) := HG.out.cell 1; go_simp) ?_
              clear HF b
              intro b HF
              refine listF rfl HF rfl (by decide) (v := .bool false) (by have e136 : b.tmps[136]?.getD undef = .int .i64 y.f1 := HF.at rfl; go_simp) ?_
              clear HF b
              intro b HF
              refine listF rfl HF rfl (by decide) (v := .bool false) (by have e134 : b.tmps[134]?.getD undef = .bool true := HF.at rfl; have e137 : b.tmps[137]?.getD undef = .bool false := HF.at rfl; go_simp) ?_
              clear HF b
              intro b HF
              refine listF rfl HF rfl (by decide) (v := .bool false) (by have e138 : b.tmps[138]?.getD undef = .bool false := HF.at rfl; go_simp) ?_
              clear HF b
              intro b HF
              refine listO rfl HF rfl (by decide) ?_
              clear HF b
              intro b HF
              refine listO rfl HF rfl (by decide) ?_
              clear HF b
              intro b HF
              refine listO rfl HF rfl (by decide) ?_
              clear HF b
              intro b HF
              refine listF rfl HF rfl (by decide) (v := .bool false) (by have e139 : b.tmps[139]?.getD undef = .bool false := HF.at rfl; have e142 : b.tmps[142]?.getD undef = undef := HF.at rfl; go_simp) ?_
              clear HF b
              intro b HF
              refine listF rfl HF rfl (by decide) (v := .bool false) (by have e143 : b.tmps[143]?.getD undef = .bool false := HF.at rfl; go_simp) ?_
              clear HF b
              intro b HF
              refine listO rfl HF rfl (by decide) ?_
              clear HF b
              intro b HF
              refine listO rfl HF rfl (by decide) ?_
              clear HF b
              intro b HF
              refine listO rfl HF rfl (by decide) ?_
              clear HF b
              intro b HF
              refine listO rfl HF rfl (by decide) ?_
              clear HF b
              intro b HF
              refine listO rfl HF rfl (by decide) ?_
              clear HF b
              intro b HF
              refine listF rfl HF rfl (by decide) (v := .bool false) (by have e144 : b.tmps[144]?.getD undef = .bool false := HF.at rfl; have e149 : b.tmps[149]?.getD undef = undef := HF.at rfl; go_simp) ?_
              clear HF b
              intro b HF
              refine listF rfl HF rfl (by decide) (v := .bool false) (by have e150 : b.tmps[150]?.getD undef = .bool false := HF.at rfl; go_simp) ?_
              clear HF b
              intro b HF
              exact ⟨rfl, false, ⟨(fun h => by cases h), (fun h => by exfalso; unfold okE at h; omega)⟩, HF.sub _ (List.forall_mem_cons.2 ⟨rfl, (List.forall_mem_cons.2 ⟨rfl, (List.forall_mem_cons.2 ⟨rfl, (List.forall_mem_cons.2 ⟨rfl, (List.forall_mem_cons.2 ⟨rfl, (List.forall_mem_cons.2 ⟨rfl, by intro p_ hp_; cases hp_⟩)⟩)⟩)⟩)⟩)⟩)⟩
            case pos =>
              by_cases k3 : 0 ≤ y.f2
              case neg =>
                have d0_ : decide (0 ≤ y.f1) = true := decide_eq_true k0
                have d1_ : decide (y.f1 ≤ 3) = true := decide_eq_true k1
                have d2_ : (y.f1 != 2) = true := by simpa using k2
                have d3_ : decide (0 ≤ y.f2) = false := decide_eq_false k3
                refine listF rfl HF rfl (by decide) (v := .pointer (some ⟨g19, 1, none⟩)) (by have e19 : b.tmps[19]?.getD undef = .pointer (some ⟨g19, 0, none⟩) := HF.at rfl; go_simp) ?_
                clear HF b
                intro b HF
                refine listF rfl HF rfl (by decide) (v := .int .i64 y.f1) (by have e126 : b.tmps[126]?.getD undef = .pointer (some ⟨g19, 1, none⟩) := HF.at rfl; have c_0 : w7.cell? ⟨g19, 1, none⟩ = some (.int .i64 y.f1) := HG.out.cell 1; go_simp) ?_
                clear HF b
                intro b HF
                refine listF rfl HF rfl (by decide) (v := .bool true) (by have e127 : b.tmps[127]?.getD undef = .int .i64 y.f1 := HF.at rfl; go_simp) ?_
                clear HF b
                intro b HF
                refine listF rfl HF rfl (by decide) (v := .bool true) (by have e128 : b.tmps[128]?.getD undef = .bool true := HF.at rfl; go_simp) ?_
                clear HF b
                intro b HF
                refine listF rfl HF rfl (by decide) (v := .pointer (some ⟨g19, 1, none⟩)) (by have e19 : b.tmps[19]?.getD undef = .pointer (some ⟨g19, 0, none⟩) := HF.at rfl; go_simp) ?_
                clear HF b
                intro b HF
                refine listF rfl HF rfl (by decide) (v := .int .i64 y.f1) (by have e130 : b.tmps[130]?.getD undef = .pointer (some ⟨g19, 1, none⟩) := HF.at rfl; have c_0 : w7.cell? ⟨g19, 1, none⟩ = some (.int .i64 y.f1) := HG.out.cell 1; go_simp) ?_
                clear HF b
                intro b HF
                refine listF rfl HF rfl (by decide) (v := .bool true) (by have e131 : b.tmps[131]?.getD undef = .int .i64 y.f1 := HF.at rfl; go_simp) ?_
                clear HF b
                intro b HF
                refine listF rfl HF rfl (by decide) (v := .bool true) (by have e129 : b.tmps[129]?.getD undef = .bool true := HF.at rfl; have e132 : b.tmps[132]?.getD undef = .bool true := HF.at rfl; go_simp) ?_
                clear HF b
                intro b HF
                refine listF rfl HF rfl (by decide) (v := .bool true) (by have e133 : b.tmps[133]?.getD undef = .bool true := HF.at rfl; go_simp) ?_
                clear HF b
                intro b HF
                refine listF rfl HF rfl (by decide) (v := .pointer (some ⟨g19, 1, none⟩)) (by have e19 : b.tmps[19]?.getD undef = .pointer (some ⟨g19, 0, none⟩) := HF.at rfl; go_simp) ?_
                clear HF b
                intro b HF
                refine listF rfl HF rfl (by decide) (v := .int .i64 y.f1) (by have e135 : b.tmps[135]?.getD undef = .pointer (some ⟨g19, 1, none⟩) := HF.at rfl; have c_0 : w7.cell? ⟨g19, 1, none⟩ = some (.int .i64 y.f1) := HG.out.cell 1; go_simp) ?_
                clear HF b
                intro b HF
                refine listF rfl HF rfl (by decide) (v := .bool true) (by have e136 : b.tmps[136]?.getD undef = .int .i64 y.f1 := HF.at rfl; go_simp) ?_
                clear HF b
                intro b HF
                refine listF rfl HF rfl (by decide) (v := .bool true) (by have e134 : b.tmps[134]?.getD undef = .bool true := HF.at rfl; have e137 : b.tmps[137]?.getD undef = .bool true := HF.at rfl; go_simp) ?_
                clear HF b
                intro b HF
                refine listF rfl HF rfl (by decide) (v := .bool true) (by have e138 : b.tmps[138]?.getD undef = .bool true := HF.at rfl; go_simp) ?_
                clear HF b
                intro b HF
                refine listF rfl HF rfl (by decide) (v := .pointer (some ⟨g19, 2, none⟩)) (by have e19 : b.tmps[19]?.getD undef = .pointer (some ⟨g19, 0, none⟩) := HF.at rfl; go_simp) ?_
                clear HF b
                intro b HF
                refine listF rfl HF rfl (by decide) (v := .int .i64 y.f2) (by have e140 : b.tmps[140]?.getD undef = .pointer (some ⟨g19, 2, none⟩) := HF.at rfl; have c_0 : w7.cell? ⟨g19, 2, none⟩ = some (.int .i64 y.f2) := HG.out.cell 2; go_simp) ?_
                clear HF b
                intro b HF
                refine listF rfl HF rfl (by decide) (v := .bool false) (by have e141 : b.tmps[141]?.getD undef = .int .i64 y.f2 := HF.at rfl; go_simp) ?_
                clear HF b
                intro b HF
                refine listF rfl HF rfl (by decide) (v := .bool false) (by have e139 : b.tmps[139]?.getD undef = .bool true := HF.at rfl; have e142 : b.tmps[142]?.getD undef = .bool false := HF.at rfl; go_simp) ?_
                clear HF b
                intro b HF
                refine listF rfl HF rfl (by decide) (v := .bool false) (by have e143 : b.tmps[143]?.getD undef = .bool false := HF.at rfl; go_simp) ?_
                clear HF b
                intro b HF
                refine listO rfl HF rfl (by decide) ?_
                clear HF b
                intro b HF
                refine listO rfl HF rfl (by decide) ?_
                clear HF b
                intro b HF
                refine listO rfl HF rfl (by decide) ?_
                clear HF b
                intro b HF
                refine listO rfl HF rfl (by decide) ?_
                clear HF b
                intro b HF
                refine listO rfl HF rfl (by decide) ?_
                clear HF b
                intro b HF
                refine listF rfl HF rfl (by decide) (v := .bool false) (by have e144 : b.tmps[144]?.getD undef = .bool false := HF.at rfl; have e149 : b.tmps[149]?.getD undef = undef := HF.at rfl; go_simp) ?_
                clear HF b
                intro b HF
                refine listF rfl HF rfl (by decide) (v := .bool false) (by have e150 : b.tmps[150]?.getD undef = .bool false := HF.at rfl; go_simp) ?_
                clear HF b
                intro b HF
                exact ⟨rfl, false, ⟨(fun h => by cases h), (fun h => by exfalso; unfold okE at h; omega)⟩, HF.sub _ (List.forall_mem_cons.2 ⟨rfl, (List.forall_mem_cons.2 ⟨rfl, (List.forall_mem_cons.2 ⟨rfl, (List.forall_mem_cons.2 ⟨rfl, (List.forall_mem_cons.2 ⟨rfl, (List.forall_mem_cons.2 ⟨rfl, by intro p_ hp_; cases hp_⟩)⟩)⟩)⟩)⟩)⟩)⟩
              case pos =>
                by_cases k4 : y.f2 < (l.length : Int)
                case neg =>
                  have d0_ : decide (0 ≤ y.f1) = true := decide_eq_true k0
                  have d1_ : decide (y.f1 ≤ 3) = true := decide_eq_true k1
                  have d2_ : (y.f1 != 2) = true := by simpa using k2
                  have d3_ : decide (0 ≤ y.f2) = true := decide_eq_true k3
                  have d4_ : decide (y.f2 < (l.length : Int)) = false := decide_eq_false k4
                  refine listF rfl HF rfl (by decide) (v := .pointer (some ⟨g19, 1, none⟩)) (by have e19 : b.tmps[19]?.getD undef = .pointer (some ⟨g19, 0, none⟩) := HF.at rfl; go_simp) ?_
                  clear HF b
                  intro b HF
                  refine listF rfl HF rfl (by decide) (v := .int .i64 y.f1) (by have e126 : b.tmps[126]?.getD undef = .pointer (some ⟨g19, 1, none⟩) := HF.at rfl; have c_0 : w7.cell? ⟨g19, 1, none⟩ = some (.int .i64 y.f1) := HG.out.cell 1; go_simp) ?_
                  clear HF b
                  intro b HF
                  refine listF rfl HF rfl (by decide) (v := .bool true) (by have e127 : b.tmps[127]?.getD undef = .int .i64 y.f1 := HF.at rfl; go_simp) ?_
                  clear HF b
                  intro b HF
                  refine listF rfl HF rfl (by decide) (v := .bool true) (by have e128 : b.tmps[128]?.getD undef = .bool true := HF.at rfl; go_simp) ?_
                  clear HF b
                  intro b HF
                  refine listF rfl HF rfl (by decide) (v := .pointer (some ⟨g19, 1, none⟩)) (by have e19 : b.tmps[19]?.getD undef = .pointer (some ⟨g19, 0, none⟩) := HF.at rfl; go_simp) ?_
                  clear HF b
                  intro b HF
                  refine listF rfl HF rfl (by decide) (v := .int .i64 y.f1) (by have e130 : b.tmps[130]?.getD undef = .pointer (some ⟨g19, 1, none⟩) := HF.at rfl; have c_0 : w7.cell? ⟨g19, 1, none⟩ = some (.int .i64 y.f1) := HG.out.cell 1; go_simp) ?_
                  clear HF b
                  intro b HF
                  refine listF rfl HF rfl (by decide) (v := .bool true) (by have e131 : b.tmps[131]?.getD undef = .int .i64 y.f1 := HF.at rfl; go_simp) ?_
                  clear HF b
                  intro b HF
                  refine listF rfl HF rfl (by decide) (v := .bool true) (by have e129 : b.tmps[129]?.getD undef = .bool true := HF.at rfl; have e132 : b.tmps[132]?.getD undef = .bool true := HF.at rfl; go_simp) ?_
                  clear HF b
                  intro b HF
                  refine listF rfl HF rfl (by decide) (v := .bool true) (by have e133 : b.tmps[133]?.getD undef = .bool true := HF.at rfl; go_simp) ?_
                  clear HF b
                  intro b HF
                  refine listF rfl HF rfl (by decide) (v := .pointer (some ⟨g19, 1, none⟩)) (by have e19 : b.tmps[19]?.getD undef = .pointer (some ⟨g19, 0, none⟩) := HF.at rfl; go_simp) ?_
                  clear HF b
                  intro b HF
                  refine listF rfl HF rfl (by decide) (v := .int .i64 y.f1) (by have e135 : b.tmps[135]?.getD undef = .pointer (some ⟨g19, 1, none⟩) := HF.at rfl; have c_0 : w7.cell? ⟨g19, 1, none⟩ = some (.int .i64 y.f1) := HG.out.cell 1; go_simp) ?_
                  clear HF b
                  intro b HF
                  refine listF rfl HF rfl (by decide) (v := .bool true) (by have e136 : b.tmps[136]?.getD undef = .int .i64 y.f1 := HF.at rfl; go_simp) ?_
                  clear HF b
                  intro b HF
                  refine listF rfl HF rfl (by decide) (v := .bool true) (by have e134 : b.tmps[134]?.getD undef = .bool true := HF.at rfl; have e137 : b.tmps[137]?.getD undef = .bool true := HF.at rfl; go_simp) ?_
                  clear HF b
                  intro b HF
                  refine listF rfl HF rfl (by decide) (v := .bool true) (by have e138 : b.tmps[138]?.getD undef = .bool true := HF.at rfl; go_simp) ?_
                  clear HF b
                  intro b HF
                  refine listF rfl HF rfl (by decide) (v := .pointer (some ⟨g19, 2, none⟩)) (by have e19 : b.tmps[19]?.getD undef = .pointer (some ⟨g19, 0, none⟩) := HF.at rfl; go_simp) ?_
                  clear HF b
                  intro b HF
                  refine listF rfl HF rfl (by decide) (v := .int .i64 y.f2) (by have e140 : b.tmps[140]?.getD undef = .pointer (some ⟨g19, 2, none⟩) := HF.at rfl; have c_0 : w7.cell? ⟨g19, 2, none⟩ = some (.int .i64 y.f2) := HG.out.cell 2; go_simp) ?_
                  clear HF b
                  intro b HF
                  refine listF rfl HF rfl (by decide) (v := .bool true) (by have e141 : b.tmps[141]?.getD undef = .int .i64 y.f2 := HF.at rfl; go_simp) ?_
                  clear HF b
                  intro b HF
                  refine listF rfl HF rfl (by decide) (v := .bool true) (by have e139 : b.tmps[139]?.getD undef = .bool true := HF.at rfl; have e142 : b.tmps[142]?.getD undef = .bool true := HF.at rfl; go_simp) ?_
                  clear HF b
                  intro b HF
                  refine listF rfl HF rfl (by decide) (v := .bool true) (by have e143 : b.tmps[143]?.getD undef = .bool true := HF.at rfl; go_simp) ?_
                  clear HF b
                  intro b HF
                  refine listF rfl HF rfl (by decide) (v := .pointer (some ⟨g19, 2, none⟩)) (by have e19 : b.tmps[19]?.getD undef = .pointer (some ⟨g19, 0, none⟩) := HF.at rfl; go_simp) ?_
                  clear HF b
                  intro b HF
                  refine listF rfl HF rfl (by decide) (v := .int .i64 y.f2) (by have e145 : b.tmps[145]?.getD undef = .pointer (some ⟨g19, 2, none⟩) := HF.at rfl; have c_0 : w7.cell? ⟨g19, 2, none⟩ = some (.int .i64 y.f2) := HG.out.cell 2; go_simp) ?_
                  clear HF b
                  intro b HF
                  refine listF rfl HF rfl (by decide) (v := .slice L l.length lc) (by have e1 : b.tmps[1]?.getD undef = .slice L l.length lc := HF.at rfl; go_simp) ?_
                  clear HF b
                  intro b HF
                  refine listF rfl HF rfl (by decide) (v := .int .i64 (l.length : Int)) (by have e147 : b.tmps[147]?.getD undef = .slice L l.length lc := HF.at rfl; go_simp) ?_
                  clear HF b
                  intro b HF
                  refine listF rfl HF rfl (by decide) (v := .bool false) (by have e146 : b.tmps[146]?.getD undef = .int .i64 y.f2 := HF.at rfl; have e148 : b.tmps[148]?.getD undef = .int .i64 (l.length : Int) := HF.at rfl; go_simp) ?_
                  clear HF b
                  intro b HF
                  refine listF rfl HF rfl (by decide) (v := .bool false) (by have e144 : b.tmps[144]?.getD undef = .bool true := HF.at rfl; have e149 : b.tmps[149]?.getD undef = .bool false := HF.at rfl; go_simp) ?_
                  clear HF b
                  intro b HF
                  refine listF rfl HF rfl (by decide) (v := .bool false) (by have e150 : b.tmps[150]?.getD undef = .bool false := HF.at rfl; go_simp) ?_
                  clear HF b
                  intro b HF
                  exact ⟨rfl, false, ⟨(fun h => by cases h), (fun h => by exfalso; unfold okE at h; omega)⟩, HF.sub _ (List.forall_mem_cons.2 ⟨rfl, (List.forall_mem_cons.2 ⟨rfl, (List.forall_mem_cons.2 ⟨rfl, (List.forall_mem_cons.2 ⟨rfl, (List.forall_mem_cons.2 ⟨rfl, (List.forall_mem_cons.2 ⟨rfl, by intro p_ hp_; cases hp_⟩)⟩)⟩)⟩)⟩)⟩)⟩
                case pos =>
                  have d0_ : decide (0 ≤ y.f1) = true := decide_eq_true k0
                  have d1_ : decide (y.f1 ≤ 3) = true := decide_eq_true k1
                  have d2_ : (y.f1 != 2) = true := by simpa using k2
                  have d3_ : decide (0 ≤ y.f2) = true := decide_eq_true k3
                  have d4_ : decide (y.f2 < (l.length : Int)) = true := decide_eq_true k4
                  refine listF rfl HF rfl (by decide) (v := .pointer (some ⟨g19, 1, none⟩)) (by have e19 : b.tmps[19]?.getD undef = .pointer (some ⟨g19, 0, none⟩) := HF.at rfl; go_simp) ?_
                  clear HF b
                  intro b HF
                  refine listF rfl HF rfl (by decide) (v := .int .i64 y.f1) (by have e126 : b.tmps[126]?.getD undef = .pointer (some ⟨g19, 1, none⟩) := HF.at rfl; have c_0 : w7.cell? ⟨g19, 1, none⟩ = some (.int .i64 y.f1) := HG.out.cell 1; go_simp) ?_
                  clear HF b
                  intro b HF
                  refine listF rfl HF rfl (by decide) (v := .bool true) (by have e127 : b.tmps[127]?.getD undef = .int .i64 y.f1 := HF.at rfl; go_simp) ?_
                  clear HF b
                  intro b HF
                  refine listF rfl HF rfl (by decide) (v := .bool true) (by have e128 : b.tmps[128]?.getD undef = .bool true := HF.at rfl; go_simp) ?_
                  clear HF b
                  intro b HF
                  refine listF rfl HF rfl (by decide) (v := .pointer (some ⟨g19, 1, none⟩)) (by have e19 : b.tmps[19]?.getD undef = .pointer (some ⟨g19, 0, none⟩) := HF.at rfl; go_simp) ?_
                  clear HF b
                  intro b HF
                  refine listF rfl HF rfl (by decide) (v := .int .i64 y.f1) (by have e130 : b.tmps[130]?.getD undef = .pointer (some ⟨g19, 1, none⟩) := HF.at rfl; have c_0 : w7.cell? ⟨g19, 1, none⟩ = some (.int .i64 y.f1) := HG.out.cell 1; go_simp) ?_
                  clear HF b
                  intro b HF
                  refine listF rfl HF rfl (by decide) (v := .bool true) (by have e131 : b.tmps[131]?.getD undef = .int .i64 y.f1 := HF.at rfl; go_simp) ?_
                  clear HF b
                  intro b HF
                  refine listF rfl HF rfl (by decide) (v := .bool true) (by have e129 : b.tmps[129]?.getD undef = .bool true := HF.at rfl; have e132 : b.tmps[132]?.getD undef = .bool true := HF.at rfl; go_simp) ?_
                  clear HF b
                  intro b HF
                  refine listF rfl HF rfl (by decide) (v := .bool true) (by have e133 : b.tmps[133]?.getD undef = .bool true := HF.at rfl; go_simp) ?_
                  clear HF b
                  intro b HF
                  refine listF rfl HF rfl (by decide) (v := .pointer (some ⟨g19, 1, none⟩)) (by have e19 : b.tmps[19]?.getD undef = .pointer (some ⟨g19, 0, none⟩) := HF.at rfl; go_simp) ?_
                  clear HF b
                  intro b HF
                  refine listF rfl HF rfl (by decide) (v := .int .i64 y.f1) (by have e135 : b.tmps[135]?.getD undef = .pointer (some ⟨g19, 1, none⟩) := HF.at rfl; have c_0 : w7.cell? ⟨g19, 1, none⟩ = some (.int .i64 y.f1) := HG.out.cell 1; go_simp) ?_
                  clear HF b
                  intro b HF
                  refine listF rfl HF rfl (by decide) (v := .bool true) (by have e136 : b.tmps[136]?.getD undef = .int .i64 y.f1 := HF.at rfl; go_simp) ?_
                  clear HF b
                  intro b HF
                  refine listF rfl HF rfl (by decide) (v := .bool true) (by have e134 : b.tmps[134]?.getD undef = .bool true := HF.at rfl; have e137 : b.tmps[137]?.getD undef = .bool true := HF.at rfl; go_simp) ?_
                  clear HF b
                  intro b HF
                  refine listF rfl HF rfl (by decide) (v := .bool true) (by have e138 : b.tmps[138]?.getD undef = .bool true := HF.at rfl; go_simp) ?_
                  clear HF b
                  intro b HF
                  refine listF rfl HF rfl (by decide) (v := .pointer (some ⟨g19, 2, none⟩)) (by have e19 : b.tmps[19]?.getD undef = .pointer (some ⟨g19, 0, none⟩) := HF.at rfl; go_simp) ?_
                  clear HF b
                  intro b HF
                  refine listF rfl HF rfl (by decide) (v := .int .i64 y.f2) (by have e140 : b.tmps[140]?.getD undef = .pointer (some ⟨g19, 2, none⟩) := HF.at rfl; have c_0 : w7.cell? ⟨g19, 2, none⟩ = some (.int .i64 y.f2) := HG.out.cell 2; go_simp) ?_
                  clear HF b
                  intro b HF
                  refine listF rfl HF rfl (by decide) (v := .bool true) (by have e141 : b.tmps[141]?.getD undef = .int .i64 y.f2 := HF.at rfl; go_simp) ?_
                  clear HF b
                  intro b HF
                  refine listF rfl HF rfl (by decide) (v := .bool true) (by have e139 : b.tmps[139]?.getD undef = .bool true := HF.at rfl; have e142 : b.tmps[142]?.getD undef = .bool true := HF.at rfl; go_simp) ?_
                  clear HF b
                  intro b HF
                  refine listF rfl HF rfl (by decide) (v := .bool true) (by have e143 : b.tmps[143]?.getD undef = .bool true := HF.at rfl; go_simp) ?_
                  clear HF b
                  intro b HF
                  refine listF rfl HF rfl (by decide) (v := .pointer (some ⟨g19, 2, none⟩)) (by have e19 : b.tmps[19]?.getD undef = .pointer (some ⟨g19, 0, none⟩) := HF.at rfl; go_simp) ?_
                  clear HF b
                  intro b HF
                  refine listF rfl HF rfl (by decide) (v := .int .i64 y.f2) (by have e145 : b.tmps[145]?.getD undef = .pointer (some ⟨g19, 2, none⟩) := HF.at rfl; have c_0 : w7.cell? ⟨g19, 2, none⟩ = some (.int .i64 y.f2) := HG.out.cell 2; go_simp) ?_
                  clear HF b
                  intro b HF
                  refine listF rfl HF rfl (by decide) (v := .slice L l.length lc) (by have e1 : b.tmps[1]?.getD undef = .slice L l.length lc := HF.at rfl; go_simp) ?_
                  clear HF b
                  intro b HF
                  refine listF rfl HF rfl (by decide) (v := .int .i64 (l.length : Int)) (by have e147 : b.tmps[147]?.getD undef = .slice L l.length lc := HF.at rfl; go_simp) ?_
                  clear HF b
                  intro b HF
                  refine listF rfl HF rfl (by decide) (v := .bool true) (by have e146 : b.tmps[146]?.getD undef = .int .i64 y.f2 := HF.at rfl; have e148 : b.tmps[148]?.getD undef = .int .i64 (l.length : Int) := HF.at rfl; go_simp) ?_
                  clear HF b
                  intro b HF
                  refine listF rfl HF rfl (by decide) (v := .bool true) (by have e144 : b.tmps[144]?.getD undef = .bool true := HF.at rfl; have e149 : b.tmps[149]?.getD undef = .bool true := HF.at rfl; go_simp) ?_
                  clear HF b
                  intro b HF
                  refine listF rfl HF rfl (by decide) (v := .bool true) (by have e150 : b.tmps[150]?.getD undef = .bool true := HF.at rfl; go_simp) ?_
                  clear HF b
                  intro b HF
                  exact ⟨rfl, true, ⟨fun _ => ⟨k0, k1, k2, k3, k4⟩, fun _ => rfl⟩, HF.sub _ (List.forall_mem_cons.2 ⟨rfl, (List.forall_mem_cons.2 ⟨rfl, (List.forall_mem_cons.2 ⟨rfl, (List.forall_mem_cons.2 ⟨rfl, (List.forall_mem_cons.2 ⟨rfl, (List.forall_mem_cons.2 ⟨rfl, by intro p_ hp_; cases hp_⟩)⟩)⟩)⟩)⟩)⟩)⟩
      · rintro a_ w_ ⟨rfl, ok, hok, hf⟩
        clear HF b
        obtain ⟨b, HF, hb_⟩ : ∃ b, Fr 194 b ((20, .bool ok) :: [(19, .pointer (some ⟨g19, 0, none⟩)), (15, .bool is), (14, .pointer (some ⟨gx, 0, none⟩)), (9, .bool true), (1, .slice L l.length lc)]) ∧ b = a_ := ⟨a_, hf, rfl⟩
        subst hb_
        clear hf
        have HOK := Aside0.mk hok
        clear hok
        show Code.wp _ _ _ _ _
        refine wp_seq ?_
        refine wp_seq ?_
        refine wp_region_lit ?_
        cases ok
        · obtain ⟨t0, t1, t2⟩ := tells_no HTE.out (fun h => by cases HOK.out.2 h)
          subst t0 t1 t2
          refine listF rfl HF rfl (by decide) (v := .bool false) (by have e20 : b.tmps[20]?.getD undef = .bool false := HF.at rfl; go_simp) ?_
          clear HF b
          intro b HF
          refine listF rfl HF rfl (by decide) (v := .bool true) (by have e151 : b.tmps[151]?.getD undef = .bool false := HF.at rfl; go_simp) ?_
          clear HF b
          intro b HF
          show Code.wp _ _ _ _ _
          refine wp_cond_true (HF.get rfl) ?_
          refine wp_seq ?_
          refine wp_region_lit ?_
          refine listF rfl HF rfl (by decide) (v := .bool true) (by have e9 : b.tmps[9]?.getD undef = .bool true := HF.at rfl; go_simp) ?_
          clear HF b
          intro b HF
          refine listF rfl HF rfl (by decide) (v := .bool true) (by have e153 : b.tmps[153]?.getD undef = .bool true := HF.at rfl; go_simp) ?_
          clear HF b
          intro b HF
          refine listF rfl HF rfl (by decide) (v := .bool false) (by have e15 : b.tmps[15]?.getD undef = .bool false := HF.at rfl; go_simp) ?_
          clear HF b
          intro b HF
          refine listF rfl HF rfl (by decide) (v := .bool true) (by have e155 : b.tmps[155]?.getD undef = .bool false := HF.at rfl; go_simp) ?_
          clear HF b
          intro b HF
          refine listF rfl HF rfl (by decide) (v := .bool true) (by have e154 : b.tmps[154]?.getD undef = .bool true := HF.at rfl; have e156 : b.tmps[156]?.getD undef = .bool true := HF.at rfl; go_simp) ?_
          clear HF b
          intro b HF
          refine listF rfl HF rfl (by decide) (v := .bool true) (by have e157 : b.tmps[157]?.getD undef = .bool true := HF.at rfl; go_simp) ?_
          clear HF b
          intro b HF
          refine listF rfl HF rfl (by decide) (v := .agg #[.int .i64 0, .int .i64 0]) (by have e14 : b.tmps[14]?.getD undef = .pointer (some ⟨gx, 0, none⟩) := HF.at rfl; have c_0 : w_.cell? ⟨gx, 0, none⟩ = some (.int .i64 0) := HM.out.told.cell 0; have c_1 : w_.cell? ⟨gx, 1, none⟩ = some (.int .i64 0) := HM.out.told.cell 1; go_simp) ?_
          clear HF b
          intro b HF
          refine listF rfl HF rfl (by decide) (v := .agg #[.int .i64 0, .int .i64 0]) (by go_simp) ?_
          clear HF b
          intro b HF
          refine listF rfl HF rfl (by decide) (v := .bool true) (by have e159 : b.tmps[159]?.getD undef = .agg #[.int .i64 0, .int .i64 0] := HF.at rfl; have e160 : b.tmps[160]?.getD undef = .agg #[.int .i64 0, .int .i64 0] := HF.at rfl; go_simp) ?_
          clear HF b
          intro b HF
          refine listF rfl HF rfl (by decide) (v := .bool true) (by have e158 : b.tmps[158]?.getD undef = .bool true := HF.at rfl; have e161 : b.tmps[161]?.getD undef = .bool true := HF.at rfl; go_simp) ?_
          clear HF b
          intro b HF
          refine listF rfl HF rfl (by decide) (v := .bool true) (by have e162 : b.tmps[162]?.getD undef = .bool true := HF.at rfl; go_simp) ?_
          clear HF b
          intro b HF
          show Code.wp _ _ _ _ _
          refine wp_ret ?_
          try simp only [Exit.inBlock, Exit.then]
          exact bodyPost_ret (results_tmp rfl _ _ _) HF.none (by rw [show b.tmps.getD 8 undef = .bool true from HF.get (k := 8) rfl]; exact HRR.out _ HM.out.low)
        · have hoke := HOK.out.1 rfl
          obtain ⟨t0, t1, t2⟩ := tells_ok HTE.out hoke
          subst t0 t1 t2
          have HOE := Aside0.mk hoke
          clear hoke
          refine listF rfl HF rfl (by decide) (v := .bool true) (by have e20 : b.tmps[20]?.getD undef = .bool true := HF.at rfl; go_simp) ?_
          clear HF b
          intro b HF
          refine listF rfl HF rfl (by decide) (v := .bool false) (by have e151 : b.tmps[151]?.getD undef = .bool true := HF.at rfl; go_simp) ?_
          clear HF b
          intro b HF
          show Code.wp _ _ _ _ _
          refine wp_cond_false (HF.get rfl) ?_
          refine wp_skip ?_
          show Code.wp _ _ _ _ _
          refine wp_seq ?_
          obtain ⟨al, eL, ql⟩ := Kd.at_int GL.out y.f2 HOE.out.2.2.2.1 HOE.out.2.2.2.2
          cases eL
          replace ql := (HM.out.low.cell (World.block_lt_of_cell? W _ ql)).trans ql
          have hi0 : (0 : Int) ≤ y.f2 := HOE.out.2.2.2.1
          have hi1 : y.f2 < (l.length : Int) := HOE.out.2.2.2.2
          have d5 : decide (0 ≤ y.f2) = true := decide_eq_true hi0
          have d6 : decide (y.f2 < (l.length : Int)) = true := decide_eq_true hi1
          obtain ⟨w8, hw8⟩ : ∃ w8, w8 = w_.drew := ⟨_, rfl⟩
          have HG8 := Aside0.mk (show Row w8 g19 74 #[.string y.f0, .int .i64 y.f1, .int .i64 y.f2] by rw [hw8]; exact HG.out)
          have HX8 := Aside0.mk (show Row w8 gx 67 #[.int .i64 y.f1, .int .i64 (rd l y.f2)] by rw [hw8]; exact HM.out.told)
          have HB8 := Aside0.mk (show Below W.heap.size W w8 by rw [hw8]; exact HM.out.low.drew)
          have HQ8 := Aside0.mk (show w8.cell? (al.add y.f2.toNat) = some (.int .i64 (rd l y.f2)) by rw [hw8]; exact ql)
          clear ql
          refine start_ (n := 22) (S := fun w' => Row w' g19 74 #[.string y.f0, .int .i64 y.f1, .int .i64 y.f2] ∧ Row w' gx 67 #[.int .i64 y.f1, .int .i64 (rd l y.f2)] ∧ w'.cell? (al.add y.f2.toNat) = some (.int .i64 (rd l y.f2))) (ds := []) (bt 22 0) (by kernel_rfl) rfl (by kernel_rfl) (by rw [← hw8]; exact ⟨HG8.out, HX8.out, HQ8.out⟩) (fun hHeld => ?_)
          refine with_tabW lawE.tab22 lawE.bits22 (fun HT_ HW_ => ?_)
          clear hHeld
          rw [← hw8]
          clear hw8
          refine pureD (i := 0) (k := 163) (v := .bool true) (bt 22 1) rfl rfl (any_of HT_.out (by kernel_rfl)) (fun _ _ _ h => h) HF rfl (by decide) (by intro wq; have e9 : b.tmps[9]?.getD undef = .bool true := HF.at rfl; go_simp) ?_
          clear HF b
          intro b HF
          refine pureD (i := 1) (k := 164) (v := .bool true) (bt 22 3) rfl rfl (any_of HT_.out (by kernel_rfl)) (fun _ _ _ h => h) HF rfl (by decide) (by intro wq; have e163 : b.tmps[163]?.getD undef = .bool true := HF.at rfl; go_simp) ?_
          clear HF b
          intro b HF
          refine pureD (i := 2) (k := 165) (v := .bool true) (bt 22 7) rfl rfl (any_of HT_.out (by kernel_rfl)) (fun _ _ _ h => h) HF rfl (by decide) (by intro wq; have e15 : b.tmps[15]?.getD undef = .bool true := HF.at rfl; go_simp) ?_
          clear HF b
          intro b HF
          refine pureD (i := 3) (k := 166) (v := .bool true) (bt 22 15) rfl rfl (any_of HT_.out (by kernel_rfl)) (fun _ _ _ h => h) HF rfl (by decide) (by intro wq; have e164 : b.tmps[164]?.getD undef = .bool true := HF.at rfl; have e165 : b.tmps[165]?.getD undef = .bool true := HF.at rfl; go_simp) ?_
          clear HF b
          intro b HF
          refine pureD (i := 4) (k := 167) (v := .bool true) (bt 22 31) rfl rfl (any_of HT_.out (by kernel_rfl)) (fun _ _ _ h => h) HF rfl (by decide) (by intro wq; have e166 : b.tmps[166]?.getD undef = .bool true := HF.at rfl; go_simp) ?_
          clear HF b
          intro b HF
          refine pureD (i := 5) (k := 168) (v := .pointer (some ⟨gx, 0, none⟩)) (bt 22 63) rfl rfl (any_of HT_.out (by kernel_rfl)) (fun _ _ _ h => h) HF rfl (by decide) (by intro wq; have e14 : b.tmps[14]?.getD undef = .pointer (some ⟨gx, 0, none⟩) := HF.at rfl; go_simp) ?_
          clear HF b
          intro b HF
          refine takeD (i := 6) (k := 169) (v := .int .i64 y.f1) (bt 22 127) rfl rfl (take_ofW HT_.out HW_.out (by kernel_rfl)) (fun _ _ _ h => h) HF rfl (by decide) (by intro wq hq; have e168 : b.tmps[168]?.getD undef = .pointer (some ⟨gx, 0, none⟩) := HF.at rfl; have c_0 : wq.cell? ⟨gx, 0, none⟩ = some (.int .i64 y.f1) := hq.2.1.cell 0; go_simp) ⟨HG8.out, HX8.out, HQ8.out⟩ ?_
          clear HF b
          intro b HF
          refine pureD (i := 7) (k := 170) (v := .pointer (some ⟨g19, 1, none⟩)) (bt 22 255) rfl rfl (any_of HT_.out (by kernel_rfl)) (fun _ _ _ h => h) HF rfl (by decide) (by intro wq; have e19 : b.tmps[19]?.getD undef = .pointer (some ⟨g19, 0, none⟩) := HF.at rfl; go_simp) ?_
          clear HF b
          intro b HF
          refine takeD (i := 8) (k := 171) (v := .int .i64 y.f1) (bt 22 511) rfl rfl (take_ofW HT_.out HW_.out (by kernel_rfl)) (fun _ _ _ h => h) HF rfl (by decide) (by intro wq hq; have e170 : b.tmps[170]?.getD undef = .pointer (some ⟨g19, 1, none⟩) := HF.at rfl; have c_0 : wq.cell? ⟨g19, 1, none⟩ = some (.int .i64 y.f1) := hq.1.cell 1; go_simp) ⟨HG8.out, HX8.out, HQ8.out⟩ ?_
          clear HF b
          intro b HF
          refine pureD (i := 9) (k := 172) (v := .bool true) (bt 22 1023) rfl rfl (any_of HT_.out (by kernel_rfl)) (fun _ _ _ h => h) HF rfl (by decide) (by intro wq; have e169 : b.tmps[169]?.getD undef = .int .i64 y.f1 := HF.at rfl; have e171 : b.tmps[171]?.getD undef = .int .i64 y.f1 := HF.at rfl; go_simp) ?_
          clear HF b
          intro b HF
          refine pureD (i := 10) (k := 173) (v := .bool true) (bt 22 2047) rfl rfl (any_of HT_.out (by kernel_rfl)) (fun _ _ _ h => h) HF rfl (by decide) (by intro wq; have e167 : b.tmps[167]?.getD undef = .bool true := HF.at rfl; have e172 : b.tmps[172]?.getD undef = .bool true := HF.at rfl; go_simp) ?_
          clear HF b
          intro b HF
          refine pureD (i := 11) (k := 174) (v := .bool true) (bt 22 4095) rfl rfl (any_of HT_.out (by kernel_rfl)) (fun _ _ _ h => h) HF rfl (by decide) (by intro wq; have e173 : b.tmps[173]?.getD undef = .bool true := HF.at rfl; go_simp) ?_
          clear HF b
          intro b HF
          refine pureD (i := 12) (k := 175) (v := .pointer (some ⟨gx, 1, none⟩)) (bt 22 8191) rfl rfl (any_of HT_.out (by kernel_rfl)) (fun _ _ _ h => h) HF rfl (by decide) (by intro wq; have e14 : b.tmps[14]?.getD undef = .pointer (some ⟨gx, 0, none⟩) := HF.at rfl; go_simp) ?_
          clear HF b
          intro b HF
          refine takeD (i := 13) (k := 176) (v := .int .i64 (rd l y.f2)) (bt 22 16383) rfl rfl (take_ofW HT_.out HW_.out (by kernel_rfl)) (fun _ _ _ h => h) HF rfl (by decide) (by intro wq hq; have e175 : b.tmps[175]?.getD undef = .pointer (some ⟨gx, 1, none⟩) := HF.at rfl; have c_0 : wq.cell? ⟨gx, 1, none⟩ = some (.int .i64 (rd l y.f2)) := hq.2.1.cell 1; go_simp) ⟨HG8.out, HX8.out, HQ8.out⟩ ?_
          clear HF b
          intro b HF
          refine pureD (i := 14) (k := 177) (v := .slice (some al) l.length lc) (bt 22 32767) rfl rfl (any_of HT_.out (by kernel_rfl)) (fun _ _ _ h => h) HF rfl (by decide) (by intro wq; have e1 : b.tmps[1]?.getD undef = .slice (some al) l.length lc := HF.at rfl; go_simp) ?_
          clear HF b
          intro b HF
          refine pureD (i := 15) (k := 178) (v := .pointer (some ⟨g19, 2, none⟩)) (bt 22 65535) rfl rfl (any_of HT_.out (by kernel_rfl)) (fun _ _ _ h => h) HF rfl (by decide) (by intro wq; have e19 : b.tmps[19]?.getD undef = .pointer (some ⟨g19, 0, none⟩) := HF.at rfl; go_simp) ?_
          clear HF b
          intro b HF
          refine takeD (i := 16) (k := 179) (v := .int .i64 y.f2) (bt 22 131071) rfl rfl (take_ofW HT_.out HW_.out (by kernel_rfl)) (fun _ _ _ h => h) HF rfl (by decide) (by intro wq hq; have e178 : b.tmps[178]?.getD undef = .pointer (some ⟨g19, 2, none⟩) := HF.at rfl; have c_0 : wq.cell? ⟨g19, 2, none⟩ = some (.int .i64 y.f2) := hq.1.cell 2; go_simp) ⟨HG8.out, HX8.out, HQ8.out⟩ ?_
          clear HF b
          intro b HF
          refine pureD (i := 17) (k := 180) (v := .pointer (some (al.add y.f2.toNat))) (bt 22 262143) rfl rfl (any_of HT_.out (by kernel_rfl)) (fun _ _ _ h => h) HF rfl (by decide) (by intro wq; have e177 : b.tmps[177]?.getD undef = .slice (some al) l.length lc := HF.at rfl; have e179 : b.tmps[179]?.getD undef = .int .i64 y.f2 := HF.at rfl; go_simp) ?_
          clear HF b
          intro b HF
          refine takeD (i := 18) (k := 181) (v := .int .i64 (rd l y.f2)) (bt 22 524287) rfl rfl (take_ofW HT_.out HW_.out (by kernel_rfl)) (fun _ _ _ h => h) HF rfl (by decide) (by intro wq hq; have e180 : b.tmps[180]?.getD undef = .pointer (some (al.add y.f2.toNat)) := HF.at rfl; have c_0 : wq.cell? (al.add y.f2.toNat) = some (.int .i64 (rd l y.f2)) := hq.2.2; go_simp) ⟨HG8.out, HX8.out, HQ8.out⟩ ?_
          clear HF b
          intro b HF
          refine pureD (i := 19) (k := 182) (v := .bool true) (bt 22 1048575) rfl rfl (any_of HT_.out (by kernel_rfl)) (fun _ _ _ h => h) HF rfl (by decide) (by intro wq; have e176 : b.tmps[176]?.getD undef = .int .i64 (rd l y.f2) := HF.at rfl; have e181 : b.tmps[181]?.getD undef = .int .i64 (rd l y.f2) := HF.at rfl; go_simp) ?_
          clear HF b
          intro b HF
          refine pureD (i := 20) (k := 183) (v := .bool true) (bt 22 2097151) rfl rfl (any_of HT_.out (by kernel_rfl)) (fun _ _ _ h => h) HF rfl (by decide) (by intro wq; have e174 : b.tmps[174]?.getD undef = .bool true := HF.at rfl; have e182 : b.tmps[182]?.getD undef = .bool true := HF.at rfl; go_simp) ?_
          clear HF b
          intro b HF
          refine pureD (i := 21) (k := 8) (v := .bool true) (bt 22 4194303) rfl rfl (any_of HT_.out (by kernel_rfl)) (fun _ _ _ h => h) HF rfl (by decide) (by intro wq; have e183 : b.tmps[183]?.getD undef = .bool true := HF.at rfl; go_simp) ?_
          clear HF b
          intro b HF
          refine done_ (done_of HT_.out (by kernel_rfl)) ?_
          show Code.wp _ _ _ _ _
          refine wp_ret ?_
          try simp only [Exit.inBlock, Exit.then]
          exact bodyPost_ret (results_tmp rfl _ _ _) HF.none (by rw [show b.tmps.getD 8 undef = .bool true from HF.get (k := 8) rfl]; exact HRR.out _ HB8.out)
  · have D0 := Aside0.mk (show decide (k < (m.f6.length : Int)) = false from decide_eq_false hlt)
    have XA := Aside0.mk (show wr.cell? ⟨W.heap.size, 6, none⟩ = some (.slice A6 m.f6.length c6) from (HM.out.box.cell 6).trans H6.out)
    refine listF rfl HF rfl (by decide) (v := .int .i64 k) (by have e18 : b.tmps[18]?.getD undef = .int .i64 k := HF.at rfl; have d0_ := D0.out; go_simp) ?_
    clear HF b
    intro b HF
    refine listF rfl HF rfl (by decide) (v := .pointer (some ⟨W.heap.size, 6, none⟩)) (by have e4 : b.tmps[4]?.getD undef = .pointer (some ⟨W.heap.size, 0, none⟩) := HF.at rfl; have d0_ := D0.out; go_simp) ?_
    clear HF b
    intro b HF
    refine listF rfl HF rfl (by decide) (v := .slice A6 m.f6.length c6) (by have e107 : b.tmps[107]?.getD undef = .pointer (some ⟨W.heap.size, 6, none⟩) := HF.at rfl; have c_0 : wr.cell? ⟨W.heap.size, 6, none⟩ = some (.slice A6 m.f6.length c6) := XA.out; have d0_ := D0.out; go_simp) ?_
    clear HF b
    intro b HF
    refine listF rfl HF rfl (by decide) (v := .int .i64 (m.f6.length : Int)) (by have e108 : b.tmps[108]?.getD undef = .slice A6 m.f6.length c6 := HF.at rfl; have d0_ := D0.out; go_simp) ?_
    clear HF b
    intro b HF
    refine listF rfl HF rfl (by decide) (v := .bool false) (by have e106 : b.tmps[106]?.getD undef = .int .i64 k := HF.at rfl; have e109 : b.tmps[109]?.getD undef = .int .i64 (m.f6.length : Int) := HF.at rfl; have d0_ := D0.out; go_simp) ?_
    clear HF b
    intro b HF
    refine listF rfl HF rfl (by decide) (v := .bool false) (by have e110 : b.tmps[110]?.getD undef = .bool false := HF.at rfl; have d0_ := D0.out; go_simp) ?_
    clear HF b
    intro b HF
    refine listO rfl HF rfl (by decide) ?_
    clear HF b
    intro b HF
    refine listO rfl HF rfl (by decide) ?_
    clear HF b
    intro b HF
    refine listF rfl HF rfl (by decide) (v := .bool false) (by have e111 : b.tmps[111]?.getD undef = .bool false := HF.at rfl; have e113 : b.tmps[113]?.getD undef = undef := HF.at rfl; have d0_ := D0.out; go_simp) ?_
    clear HF b
    intro b HF
    show Code.wp _ _ _ _ _
    refine wp_cond_false (HF.get rfl) ?_
    refine wp_exit ?_
    show K _ _
    refine HKK.out _ _ (HF.sub _ (List.forall_mem_cons.2 ⟨rfl, (List.forall_mem_cons.2 ⟨rfl, (List.forall_mem_cons.2 ⟨rfl, by intro p_ hp_; cases hp_⟩)⟩)⟩)) HM.out ?_
    obtain ⟨j, hj, hh⟩ := HT.out
    have := first_none hj (fun i h1 h2 => HBE.out i h1 (by have h3 : i < (m.f6.length : Int) := h2; omega))
    rcases hh with ⟨_, h⟩ | ⟨h, _⟩
    · exact h
    · omega
set_option maxHeartbeats 2000000 in
set_option maxRecDepth 100000 in
theorem lawNone {W : World} {m : S61} {ca : Array Value} {A6 : Option Addr} {c6 : Nat} {L : Option Addr} {lc gx : Nat} {l : List Int} {name : ByteArray} {inst : Int} (hi : inst ≠ 0) (h6 : ca[6]? = some (.slice A6 m.f6.length c6))
    {K : Act → World → Prop} {R : Ending → World → Prop} {a1 : Act} {w1 : World} (hF : Fr 194 a1 [(18, .int .i64 0), (15, .bool false), (14, .pointer (some ⟨gx, 0, none⟩)), (9, .bool true), (4, .pointer (some ⟨W.heap.size, 0, none⟩)), (3, .string name), (2, .int .i64 inst), (1, .slice L l.length lc)]) (hm : Lw W w1 ca gx 0 0)
    (hK : ∀ a' w', Fr 194 a' [(15, .bool false), (14, .pointer (some ⟨gx, 0, none⟩)), (9, .bool true)] → Lw W w' ca gx 0 0 → K a' w') : (blockOf Try.f4 0).wp Try.prog (Exit.then K (bodyPost Try.prog Try.f4 R)) a1 w1 := by
  have HKK := Aside0.mk hK; have H6 := Aside0.mk h6
  have hi_ : (inst == 0) = false := beq_eq_false_iff_ne.2 hi
  clear h6 hK hi
  refine wp_block ?_
  refine wp_loop_ghost (fun q_ b_ w_ => Fr 194 b_ [(18, .int .i64 0), (15, .bool false), (14, .pointer (some ⟨gx, 0, none⟩)), (9, .bool true), (4, .pointer (some ⟨W.heap.size, 0, none⟩)), (3, .string name), (2, .int .i64 inst), (1, .slice L l.length lc)] ∧ Lw W w_ ca gx 0 0) 0 ⟨hF, hm⟩ ?_
  clear hF hm
  rintro q b w_ ⟨HF, hm⟩
  have HM := Aside0.mk hm
  clear hm
  have XA := Aside0.mk (show w_.cell? ⟨W.heap.size, 6, none⟩ = some (.slice A6 m.f6.length c6) from (HM.out.box.cell 6).trans H6.out)
  refine wp_seq ?_
  refine wp_seq ?_
  refine wp_region_lit ?_
  by_cases hlt : (0 : Int) < (m.f6.length : Int)
  · have D0 := Aside0.mk (show decide ((0 : Int) < (m.f6.length : Int)) = true from decide_eq_true hlt)
    refine listF rfl HF rfl (by decide) (v := .int .i64 0) (by have e18 : b.tmps[18]?.getD undef = .int .i64 0 := HF.at rfl; have d0_ := D0.out; go_simp) ?_
    clear HF b
    intro b HF
    refine listF rfl HF rfl (by decide) (v := .pointer (some ⟨W.heap.size, 6, none⟩)) (by have e4 : b.tmps[4]?.getD undef = .pointer (some ⟨W.heap.size, 0, none⟩) := HF.at rfl; have d0_ := D0.out; go_simp) ?_
    clear HF b
    intro b HF
    refine listF rfl HF rfl (by decide) (v := .slice A6 m.f6.length c6) (by have e107 : b.tmps[107]?.getD undef = .pointer (some ⟨W.heap.size, 6, none⟩) := HF.at rfl; have c_0 : w_.cell? ⟨W.heap.size, 6, none⟩ = some (.slice A6 m.f6.length c6) := XA.out; have d0_ := D0.out; go_simp) ?_
    clear HF b
    intro b HF
    refine listF rfl HF rfl (by decide) (v := .int .i64 (m.f6.length : Int)) (by have e108 : b.tmps[108]?.getD undef = .slice A6 m.f6.length c6 := HF.at rfl; have d0_ := D0.out; go_simp) ?_
    clear HF b
    intro b HF
    refine listF rfl HF rfl (by decide) (v := .bool true) (by have e106 : b.tmps[106]?.getD undef = .int .i64 0 := HF.at rfl; have e109 : b.tmps[109]?.getD undef = .int .i64 (m.f6.length : Int) := HF.at rfl; have d0_ := D0.out; go_simp; omega) ?_
    clear HF b
    intro b HF
    refine listF rfl HF rfl (by decide) (v := .bool true) (by have e110 : b.tmps[110]?.getD undef = .bool true := HF.at rfl; have d0_ := D0.out; go_simp) ?_
    clear HF b
    intro b HF
    refine listF rfl HF rfl (by decide) (v := .int .i64 inst) (by have e2 : b.tmps[2]?.getD undef = .int .i64 inst := HF.at rfl; have d0_ := D0.out; go_simp) ?_
    clear HF b
    intro b HF
    refine listF rfl HF rfl (by decide) (v := .bool false) (by have e112 : b.tmps[112]?.getD undef = .int .i64 inst := HF.at rfl; have d0_ := D0.out; go_simp) ?_
    clear HF b
    intro b HF
    refine listF rfl HF rfl (by decide) (v := .bool false) (by have e111 : b.tmps[111]?.getD undef = .bool true := HF.at rfl; have e113 : b.tmps[113]?.getD undef = .bool false := HF.at rfl; have d0_ := D0.out; go_simp) ?_
    clear HF b
    intro b HF
    show Code.wp _ _ _ _ _
    refine wp_cond_false (HF.get rfl) ?_
    refine wp_exit ?_
    show K _ _
    exact HKK.out _ _ (HF.sub _ (List.forall_mem_cons.2 ⟨rfl, (List.forall_mem_cons.2 ⟨rfl, (List.forall_mem_cons.2 ⟨rfl, by intro p_ hp_; cases hp_⟩)⟩)⟩)) HM.out
  · have D0 := Aside0.mk (show decide ((0 : Int) < (m.f6.length : Int)) = false from decide_eq_false hlt)
    refine listF rfl HF rfl (by decide) (v := .int .i64 0) (by have e18 : b.tmps[18]?.getD undef = .int .i64 0 := HF.at rfl; have d0_ := D0.out; go_simp) ?_
    clear HF b
    intro b HF
    refine listF rfl HF rfl (by decide) (v := .pointer (some ⟨W.heap.size, 6, none⟩)) (by have e4 : b.tmps[4]?.getD undef = .pointer (some ⟨W.heap.size, 0, none⟩) := HF.at rfl; have d0_ := D0.out; go_simp) ?_
    clear HF b
    intro b HF
    refine listF rfl HF rfl (by decide) (v := .slice A6 m.f6.length c6) (by have e107 : b.tmps[107]?.getD undef = .pointer (some ⟨W.heap.size, 6, none⟩) := HF.at rfl; have c_0 : w_.cell? ⟨W.heap.size, 6, none⟩ = some (.slice A6 m.f6.length c6) := XA.out; have d0_ := D0.out; go_simp) ?_
    clear HF b
    intro b HF
    refine listF rfl HF rfl (by decide) (v := .int .i64 (m.f6.length : Int)) (by have e108 : b.tmps[108]?.getD undef = .slice A6 m.f6.length c6 := HF.at rfl; have d0_ := D0.out; go_simp) ?_
    clear HF b
    intro b HF
    refine listF rfl HF rfl (by decide) (v := .bool false) (by have e106 : b.tmps[106]?.getD undef = .int .i64 0 := HF.at rfl; have e109 : b.tmps[109]?.getD undef = .int .i64 (m.f6.length : Int) := HF.at rfl; have d0_ := D0.out; go_simp; exact List.eq_nil_of_length_eq_zero (by omega)) ?_
    clear HF b
    intro b HF
    refine listF rfl HF rfl (by decide) (v := .bool false) (by have e110 : b.tmps[110]?.getD undef = .bool false := HF.at rfl; have d0_ := D0.out; go_simp) ?_
    clear HF b
    intro b HF
    refine listO rfl HF rfl (by decide) ?_
    clear HF b
    intro b HF
    refine listO rfl HF rfl (by decide) ?_
    clear HF b
    intro b HF
    refine listF rfl HF rfl (by decide) (v := .bool false) (by have e111 : b.tmps[111]?.getD undef = .bool false := HF.at rfl; have e113 : b.tmps[113]?.getD undef = undef := HF.at rfl; have d0_ := D0.out; go_simp) ?_
    clear HF b
    intro b HF
    show Code.wp _ _ _ _ _
    refine wp_cond_false (HF.get rfl) ?_
    refine wp_exit ?_
    show K _ _
    exact HKK.out _ _ (HF.sub _ (List.forall_mem_cons.2 ⟨rfl, (List.forall_mem_cons.2 ⟨rfl, (List.forall_mem_cons.2 ⟨rfl, by intro p_ hp_; cases hp_⟩)⟩)⟩)) HM.out
end Go.Proofs.Ytbelijoggbblgaa.Ex
