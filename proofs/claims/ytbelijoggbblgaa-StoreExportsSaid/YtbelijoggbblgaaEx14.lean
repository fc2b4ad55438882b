/- The document's Few of a module that lies in memory tells a truth value. Printed by the program mkfew.py. -/
import Derived.Test.YtbelijoggbblgaaFw2
namespace Go.Proofs.Ytbelijoggbblgaa.Ex
open Go.RowKit Go.Proofs.YtbelijoggbblgaaW.PrintWords Go.Proofs.YtbelijoggbblgaaW.PrintLast Go.Proofs.Ytbelijoggbblgaa.RStoreExports
set_option linter.unusedVariables false
set_option linter.unusedSimpArgs false
/-- few of instructions tells a truth value. -/
theorem few_calls {w : World} {A : Option Addr} {c : Nat} {l : List S104} (h : k104.C w A l.length l) (hc : l.length ≤ c) : Calls Try.prog 26 #[.slice A l.length c] w fun e w' => ∃ r : Bool, e = .returned (.bool r) ∧ Below w.heap.size w w' := by
  obtain ⟨K, r, e⟩ := few_total l A h
  refine (grommetref05_few.calls K A c l r w h hc e).mono ?_
  rintro e w' ⟨rfl, ⟨nd, rfl⟩⟩
  exact ⟨r, rfl, pw_below_drewN (Below.refl _ _) nd⟩
/-- The box of the argument as it was. -/
structure Fw (W w : World) (ca : Array Value) : Prop where
  box : Row w W.heap.size 61 ca
  low : Below W.heap.size W w
theorem Fw.step {W w w' : World} {ca : Array Value} (h : Fw W w ca) (hb : Below w.heap.size w w') : Fw W w' ca := ⟨h.box.below hb h.box.lt, h.low.trans (St.below_mono hb h.low.size)⟩
set_option maxHeartbeats 2000000 in
set_option maxRecDepth 100000 in
theorem fewL2 {W : World} {m : S61} {ca : Array Value} {A : Option Addr} {a : Nat} (ga : k101.C W A m.f2.length m.f2) (ha : ca[2]? = some (.slice A m.f2.length a)) {K : Act → World → Prop} {R : Ending → World → Prop} {a1 : Act} {w1 : World} {x0 : Bool} (hF : Fr 156 a1 [(4, .int .i64 0), (3, .bool x0), (1, .pointer (some ⟨W.heap.size, 0, none⟩))]) (hm : Fw W w1 ca)
    (hK : ∀ x a' w', Fr 156 a' [(3, .bool x), (1, .pointer (some ⟨W.heap.size, 0, none⟩))] → Fw W w' ca → K a' w') : (blockOf Try.f15 0).wp Try.prog (Exit.then K (bodyPost Try.prog Try.f15 R)) a1 w1 := by
  have GA := Aside0.mk ga; have HA := Aside0.mk ha; have HKK := Aside0.mk hK
  clear ga ha hK
  refine wp_block ?_
  refine wp_loop_ghost (fun q_ b_ w_ => ∃ (k : Int) (x : Bool), 0 ≤ k ∧ (q_ : Int) + k = m.f2.length ∧ Fr 156 b_ [(4, .int .i64 k), (3, .bool x), (1, .pointer (some ⟨W.heap.size, 0, none⟩))] ∧ Fw W w_ ca) m.f2.length ⟨0, x0, Int.le_refl _, by omega, hF, hm⟩ ?_
  clear hF hm
  rintro q b wr ⟨k, x, hk0, hk1, HF, hm⟩
  have HM := Aside0.mk hm
  clear hm
  have XA := Aside0.mk (show wr.cell? ⟨W.heap.size, 2, none⟩ = some (.slice A m.f2.length a) from (HM.out.box.cell 2).trans HA.out)
  refine wp_seq ?_
  refine wp_seq ?_
  refine wp_region_lit ?_
  by_cases hlt : k < (m.f2.length : Int)
  · cases x
    case false =>
      have d0_ : decide (k < (m.f2.length : Int)) = true := decide_eq_true hlt
      refine listF rfl HF rfl (by decide) (v := .int .i64 k) (by have e4 : b.tmps[4]?.getD undef = .int .i64 k := HF.at rfl; go_simp) ?_
      clear HF b
      intro b HF
      refine listF rfl HF rfl (by decide) (v := .pointer (some ⟨W.heap.size, 2, none⟩)) (by have e1 : b.tmps[1]?.getD undef = .pointer (some ⟨W.heap.size, 0, none⟩) := HF.at rfl; go_simp) ?_
      clear HF b
      intro b HF
      refine listF rfl HF rfl (by decide) (v := .slice A m.f2.length a) (by have e55 : b.tmps[55]?.getD undef = .pointer (some ⟨W.heap.size, 2, none⟩) := HF.at rfl; have c_0 : wr.cell? ⟨W.heap.size, 2, none⟩ = some (.slice A m.f2.length a) := XA.out; go_simp) ?_
      clear HF b
      intro b HF
      refine listF rfl HF rfl (by decide) (v := .int .i64 (m.f2.length : Int)) (by have e56 : b.tmps[56]?.getD undef = .slice A m.f2.length a := HF.at rfl; go_simp) ?_
      clear HF b
      intro b HF
      refine listF rfl HF rfl (by decide) (v := .bool true) (by have e54 : b.tmps[54]?.getD undef = .int .i64 k := HF.at rfl; have e57 : b.tmps[57]?.getD undef = .int .i64 (m.f2.length : Int) := HF.at rfl; go_simp) ?_
      clear HF b
      intro b HF
      refine listF rfl HF rfl (by decide) (v := .bool true) (by have e58 : b.tmps[58]?.getD undef = .bool true := HF.at rfl; go_simp) ?_
      clear HF b
      intro b HF
      refine listF rfl HF rfl (by decide) (v := .bool false) (by have e3 : b.tmps[3]?.getD undef = .bool false := HF.at rfl; go_simp) ?_
      clear HF b
      intro b HF
      refine listF rfl HF rfl (by decide) (v := .bool false) (by have e59 : b.tmps[59]?.getD undef = .bool true := HF.at rfl; have e60 : b.tmps[60]?.getD undef = .bool false := HF.at rfl; go_simp) ?_
      clear HF b
      intro b HF
      show Code.wp _ _ _ _ _
      refine wp_cond_false (HF.get rfl) ?_
      refine wp_exit ?_
      show K _ _
      exact HKK.out false _ _ (HF.sub _ (List.forall_mem_cons.2 ⟨rfl, (List.forall_mem_cons.2 ⟨rfl, by intro p_ hp_; cases hp_⟩)⟩)) HM.out
    case true =>
      have d0_ : decide (k < (m.f2.length : Int)) = true := decide_eq_true hlt
      refine listF rfl HF rfl (by decide) (v := .int .i64 k) (by have e4 : b.tmps[4]?.getD undef = .int .i64 k := HF.at rfl; go_simp) ?_
      clear HF b
      intro b HF
      refine listF rfl HF rfl (by decide) (v := .pointer (some ⟨W.heap.size, 2, none⟩)) (by have e1 : b.tmps[1]?.getD undef = .pointer (some ⟨W.heap.size, 0, none⟩) := HF.at rfl; go_simp) ?_
      clear HF b
      intro b HF
      refine listF rfl HF rfl (by decide) (v := .slice A m.f2.length a) (by have e55 : b.tmps[55]?.getD undef = .pointer (some ⟨W.heap.size, 2, none⟩) := HF.at rfl; have c_0 : wr.cell? ⟨W.heap.size, 2, none⟩ = some (.slice A m.f2.length a) := XA.out; go_simp) ?_
      clear HF b
      intro b HF
      refine listF rfl HF rfl (by decide) (v := .int .i64 (m.f2.length : Int)) (by have e56 : b.tmps[56]?.getD undef = .slice A m.f2.length a := HF.at rfl; go_simp) ?_
      clear HF b
      intro b HF
      refine listF rfl HF rfl (by decide) (v := .bool true) (by have e54 : b.tmps[54]?.getD undef = .int .i64 k := HF.at rfl; have e57 : b.tmps[57]?.getD undef = .int .i64 (m.f2.length : Int) := HF.at rfl; go_simp) ?_
      clear HF b
      intro b HF
      refine listF rfl HF rfl (by decide) (v := .bool true) (by have e58 : b.tmps[58]?.getD undef = .bool true := HF.at rfl; go_simp) ?_
      clear HF b
      intro b HF
      refine listF rfl HF rfl (by decide) (v := .bool true) (by have e3 : b.tmps[3]?.getD undef = .bool true := HF.at rfl; go_simp) ?_
      clear HF b
      intro b HF
      refine listF rfl HF rfl (by decide) (v := .bool true) (by have e59 : b.tmps[59]?.getD undef = .bool true := HF.at rfl; have e60 : b.tmps[60]?.getD undef = .bool true := HF.at rfl; go_simp) ?_
      clear HF b
      intro b HF
      show Code.wp _ _ _ _ _
      refine wp_cond_true (HF.get rfl) ?_
      refine wp_skip ?_
      show Code.wp _ _ _ _ _
      refine wp_seq ?_
      refine wp_block ?_
      refine wp_region_lit ?_
      replace HF := HF.sub [(4, .int .i64 k), (3, .bool true), (1, .pointer (some ⟨W.heap.size, 0, none⟩))] (List.forall_mem_cons.2 ⟨rfl, (List.forall_mem_cons.2 ⟨rfl, (List.forall_mem_cons.2 ⟨rfl, by intro p_ hp_; cases hp_⟩)⟩)⟩)
      have ew : IntKind.i64.wrap (k + 1) = k + 1 := by have := Kd.C_max GA.out; rw [IntKind.wrap_i64]; omega
      obtain ⟨ad, Y1, y1, Y2, y2, eA, q0, q1, q2, l1, g1, l2, g2⟩ := at_T101 GA.out k hk0 hlt
      cases eA
      generalize rd_T101 m.f2 k = y at *
      have HQ0 := Aside0.mk ((HM.out.low.cell (World.block_lt_of_cell? W _ q0)).trans q0); clear q0
      have HQ1 := Aside0.mk ((HM.out.low.cell (World.block_lt_of_cell? W _ q1)).trans q1); clear q1
      have HQ2 := Aside0.mk ((HM.out.low.cell (World.block_lt_of_cell? W _ q2)).trans q2); clear q2
      have Hl1 := Aside0.mk l1; clear l1
      have Hg1 := Aside0.mk g1; clear g1
      have Hl2 := Aside0.mk l2; clear l2
      have Hg2 := Aside0.mk g2; clear g2
      replace XA := Aside0.mk (show wr.cell? ⟨W.heap.size, 2, none⟩ = some (.slice (some ad) m.f2.length a) from XA.out)
      have d1_ : decide (0 ≤ k) = true := decide_eq_true hk0
      have d2_ : decide (k < (m.f2.length : Int)) = true := decide_eq_true hlt
      have dk0 : (0 : Int) ≤ k := hk0
      have dk1 : k < (m.f2.length : Int) := hlt
      refine listF rfl HF rfl (by decide) (v := .pointer (some ⟨W.heap.size, 2, none⟩)) (by have e1 : b.tmps[1]?.getD undef = .pointer (some ⟨W.heap.size, 0, none⟩) := HF.at rfl; go_simp) ?_
      clear HF b
      intro b HF
      refine listF rfl HF rfl (by decide) (v := .slice (some ad) m.f2.length a) (by have e64 : b.tmps[64]?.getD undef = .pointer (some ⟨W.heap.size, 2, none⟩) := HF.at rfl; have c_0 : wr.cell? ⟨W.heap.size, 2, none⟩ = some (.slice (some ad) m.f2.length a) := XA.out; go_simp) ?_
      clear HF b
      intro b HF
      refine listF rfl HF rfl (by decide) (v := .int .i64 k) (by have e4 : b.tmps[4]?.getD undef = .int .i64 k := HF.at rfl; go_simp) ?_
      clear HF b
      intro b HF
      refine listF rfl HF rfl (by decide) (v := .pointer (some (ad.add (k.toNat * 3)))) (by have e65 : b.tmps[65]?.getD undef = .slice (some ad) m.f2.length a := HF.at rfl; have e66 : b.tmps[66]?.getD undef = .int .i64 k := HF.at rfl; go_simp) ?_
      clear HF b
      intro b HF
      refine listF rfl HF rfl (by decide) (v := .pointer (some ⟨(ad.add (k.toNat * 3)).block, (ad.add (k.toNat * 3)).off + 2, none⟩)) (by have e67 : b.tmps[67]?.getD undef = .pointer (some (ad.add (k.toNat * 3))) := HF.at rfl; go_simp) ?_
      clear HF b
      intro b HF
      refine listF rfl HF rfl (by decide) (v := .slice Y2 y.f2.length y2) (by have e68 : b.tmps[68]?.getD undef = .pointer (some ⟨(ad.add (k.toNat * 3)).block, (ad.add (k.toNat * 3)).off + 2, none⟩) := HF.at rfl; have c_0 : wr.cell? ⟨(ad.add (k.toNat * 3)).block, (ad.add (k.toNat * 3)).off + 2, none⟩ = some (.slice Y2 y.f2.length y2) := HQ2.out; go_simp) ?_
      clear HF b
      intro b HF
      refine listC rfl HF rfl (by decide) (fun K_ hK_ => ?_)
      have e69 : b.tmps[69]?.getD undef = .slice Y2 y.f2.length y2 := HF.at rfl
      go_simp
      clear e69
      refine (few_calls (Kd.C_below Hg2.out HM.out.low) Hl2.out).mono ?_
      rintro e w106 ⟨r, rfl, hb_⟩
      have hx_ : Below wr.heap.size wr w106 := hb_
      replace HM := Aside0.mk (HM.out.step hb_)
      replace XA := Aside0.mk (pw_cell_below hb_ XA.out)
      replace HQ0 := Aside0.mk (pw_cell_below hb_ HQ0.out)
      replace HQ1 := Aside0.mk (pw_cell_below hb_ HQ1.out)
      replace HQ2 := Aside0.mk (pw_cell_below hb_ HQ2.out)
      clear hb_ hx_
      refine hK_.out _ _ ?_
      clear hK_ K_ HF b
      intro b HF
      cases r
      case false =>
        refine listF rfl HF rfl (by decide) (v := .bool false) (by have e70 : b.tmps[70]?.getD undef = .bool false := HF.at rfl; go_simp) ?_
        clear HF b
        intro b HF
        refine listO rfl HF rfl (by decide) ?_
        clear HF b
        intro b HF
        refine listO rfl HF rfl (by decide) ?_
        clear HF b
        intro b HF
        refine listO rfl HF rfl (by decide) ?_
        clear HF b
        intro b HF
        refine listO rfl HF rfl (by decide) ?_
        clear HF b
        intro b HF
        refine listO rfl HF rfl (by decide) ?_
        clear HF b
        intro b HF
        refine listO rfl HF rfl (by decide) ?_
        clear HF b
        intro b HF
        refine listO rfl HF rfl (by decide) ?_
        clear HF b
        intro b HF
        refine listO rfl HF rfl (by decide) ?_
        clear HF b
        intro b HF
        refine listF rfl HF rfl (by decide) (v := .bool false) (by have e71 : b.tmps[71]?.getD undef = .bool false := HF.at rfl; have e79 : b.tmps[79]?.getD undef = undef := HF.at rfl; go_simp) ?_
        clear HF b
        intro b HF
        refine listF rfl HF rfl (by decide) (v := .bool false) (by have e80 : b.tmps[80]?.getD undef = .bool false := HF.at rfl; go_simp) ?_
        clear HF b
        intro b HF
        show Code.wp _ _ _ _ _
        refine wp_region_lit ?_
        replace HF := HF.sub [(4, .int .i64 k), (3, .bool false), (1, .pointer (some ⟨W.heap.size, 0, none⟩))] (List.forall_mem_cons.2 ⟨rfl, (List.forall_mem_cons.2 ⟨rfl, (List.forall_mem_cons.2 ⟨rfl, by intro p_ hp_; cases hp_⟩)⟩)⟩)
        refine listF rfl HF rfl (by decide) (v := .int .i64 k) (by have e4 : b.tmps[4]?.getD undef = .int .i64 k := HF.at rfl; go_simp) ?_
        clear HF b
        intro b HF
        refine listF rfl HF rfl (by decide) (v := .int .i64 (k + 1)) (by have e62 : b.tmps[62]?.getD undef = .int .i64 k := HF.at rfl; go_simp) ?_
        clear HF b
        intro b HF
        refine listF rfl HF rfl (by decide) (v := .int .i64 (k + 1)) (by have e63 : b.tmps[63]?.getD undef = .int .i64 (k + 1) := HF.at rfl; go_simp) ?_
        clear HF b
        intro b HF
        exact ⟨(m.f2.length - (k + 1).toNat : Nat), by omega, k + 1, _, by omega, by omega, HF.sub _ (List.forall_mem_cons.2 ⟨rfl, (List.forall_mem_cons.2 ⟨rfl, (List.forall_mem_cons.2 ⟨rfl, by intro p_ hp_; cases hp_⟩)⟩)⟩), HM.out⟩
      case true =>
        refine listF rfl HF rfl (by decide) (v := .bool true) (by have e70 : b.tmps[70]?.getD undef = .bool true := HF.at rfl; go_simp) ?_
        clear HF b
        intro b HF
        refine listF rfl HF rfl (by decide) (v := .pointer (some ⟨W.heap.size, 2, none⟩)) (by have e1 : b.tmps[1]?.getD undef = .pointer (some ⟨W.heap.size, 0, none⟩) := HF.at rfl; go_simp) ?_
        clear HF b
        intro b HF
        refine listF rfl HF rfl (by decide) (v := .slice (some ad) m.f2.length a) (by have e72 : b.tmps[72]?.getD undef = .pointer (some ⟨W.heap.size, 2, none⟩) := HF.at rfl; have c_0 : w106.cell? ⟨W.heap.size, 2, none⟩ = some (.slice (some ad) m.f2.length a) := XA.out; go_simp) ?_
        clear HF b
        intro b HF
        refine listF rfl HF rfl (by decide) (v := .int .i64 k) (by have e4 : b.tmps[4]?.getD undef = .int .i64 k := HF.at rfl; go_simp) ?_
        clear HF b
        intro b HF
        refine listF rfl HF rfl (by decide) (v := .pointer (some (ad.add (k.toNat * 3)))) (by have e73 : b.tmps[73]?.getD undef = .slice (some ad) m.f2.length a := HF.at rfl; have e74 : b.tmps[74]?.getD undef = .int .i64 k := HF.at rfl; go_simp) ?_
        clear HF b
        intro b HF
        refine listF rfl HF rfl (by decide) (v := .pointer (some ⟨(ad.add (k.toNat * 3)).block, (ad.add (k.toNat * 3)).off + 1, none⟩)) (by have e75 : b.tmps[75]?.getD undef = .pointer (some (ad.add (k.toNat * 3))) := HF.at rfl; go_simp) ?_
        clear HF b
        intro b HF
        refine listF rfl HF rfl (by decide) (v := .slice Y1 y.f1.length y1) (by have e76 : b.tmps[76]?.getD undef = .pointer (some ⟨(ad.add (k.toNat * 3)).block, (ad.add (k.toNat * 3)).off + 1, none⟩) := HF.at rfl; have c_0 : w106.cell? ⟨(ad.add (k.toNat * 3)).block, (ad.add (k.toNat * 3)).off + 1, none⟩ = some (.slice Y1 y.f1.length y1) := HQ1.out; go_simp) ?_
        clear HF b
        intro b HF
        refine listF rfl HF rfl (by decide) (v := .int .i64 (y.f1.length : Int)) (by have e77 : b.tmps[77]?.getD undef = .slice Y1 y.f1.length y1 := HF.at rfl; go_simp) ?_
        clear HF b
        intro b HF
        refine listF rfl HF rfl (by decide) (v := .bool (decide ((y.f1.length : Int) ≤ 1000))) (by have e78 : b.tmps[78]?.getD undef = .int .i64 (y.f1.length : Int) := HF.at rfl; go_simp) ?_
        clear HF b
        intro b HF
        refine listF rfl HF rfl (by decide) (v := .bool (decide ((y.f1.length : Int) ≤ 1000))) (by have e71 : b.tmps[71]?.getD undef = .bool true := HF.at rfl; have e79 : b.tmps[79]?.getD undef = .bool (decide ((y.f1.length : Int) ≤ 1000)) := HF.at rfl; go_simp) ?_
        clear HF b
        intro b HF
        refine listF rfl HF rfl (by decide) (v := .bool (decide ((y.f1.length : Int) ≤ 1000))) (by have e80 : b.tmps[80]?.getD undef = .bool (decide ((y.f1.length : Int) ≤ 1000)) := HF.at rfl; go_simp) ?_
        clear HF b
        intro b HF
        show Code.wp _ _ _ _ _
        refine wp_region_lit ?_
        replace HF := HF.sub [(4, .int .i64 k), (3, .bool (decide ((y.f1.length : Int) ≤ 1000))), (1, .pointer (some ⟨W.heap.size, 0, none⟩))] (List.forall_mem_cons.2 ⟨rfl, (List.forall_mem_cons.2 ⟨rfl, (List.forall_mem_cons.2 ⟨rfl, by intro p_ hp_; cases hp_⟩)⟩)⟩)
        refine listF rfl HF rfl (by decide) (v := .int .i64 k) (by have e4 : b.tmps[4]?.getD undef = .int .i64 k := HF.at rfl; go_simp) ?_
        clear HF b
        intro b HF
        refine listF rfl HF rfl (by decide) (v := .int .i64 (k + 1)) (by have e62 : b.tmps[62]?.getD undef = .int .i64 k := HF.at rfl; go_simp) ?_
        clear HF b
        intro b HF
        refine listF rfl HF rfl (by decide) (v := .int .i64 (k + 1)) (by have e63 : b.tmps[63]?.getD undef = .int .i64 (k + 1) := HF.at rfl; go_simp) ?_
        clear HF b
        intro b HF
        exact ⟨(m.f2.length - (k + 1).toNat : Nat), by omega, k + 1, _, by omega, by omega, HF.sub _ (List.forall_mem_cons.2 ⟨rfl, (List.forall_mem_cons.2 ⟨rfl, (List.forall_mem_cons.2 ⟨rfl, by intro p_ hp_; cases hp_⟩)⟩)⟩), HM.out⟩
  · have d0_ : decide (k < (m.f2.length : Int)) = false := decide_eq_false hlt
    refine listF rfl HF rfl (by decide) (v := .int .i64 k) (by have e4 : b.tmps[4]?.getD undef = .int .i64 k := HF.at rfl; go_simp) ?_
    clear HF b
    intro b HF
    refine listF rfl HF rfl (by decide) (v := .pointer (some ⟨W.heap.size, 2, none⟩)) (by have e1 : b.tmps[1]?.getD undef = .pointer (some ⟨W.heap.size, 0, none⟩) := HF.at rfl; go_simp) ?_
    clear HF b
    intro b HF
    refine listF rfl HF rfl (by decide) (v := .slice A m.f2.length a) (by have e55 : b.tmps[55]?.getD undef = .pointer (some ⟨W.heap.size, 2, none⟩) := HF.at rfl; have c_0 : wr.cell? ⟨W.heap.size, 2, none⟩ = some (.slice A m.f2.length a) := XA.out; go_simp) ?_
    clear HF b
    intro b HF
    refine listF rfl HF rfl (by decide) (v := .int .i64 (m.f2.length : Int)) (by have e56 : b.tmps[56]?.getD undef = .slice A m.f2.length a := HF.at rfl; go_simp) ?_
    clear HF b
    intro b HF
    refine listF rfl HF rfl (by decide) (v := .bool false) (by have e54 : b.tmps[54]?.getD undef = .int .i64 k := HF.at rfl; have e57 : b.tmps[57]?.getD undef = .int .i64 (m.f2.length : Int) := HF.at rfl; go_simp) ?_
    clear HF b
    intro b HF
    refine listF rfl HF rfl (by decide) (v := .bool false) (by have e58 : b.tmps[58]?.getD undef = .bool false := HF.at rfl; go_simp) ?_
    clear HF b
    intro b HF
    refine listO rfl HF rfl (by decide) ?_
    clear HF b
    intro b HF
    refine listF rfl HF rfl (by decide) (v := .bool false) (by have e59 : b.tmps[59]?.getD undef = .bool false := HF.at rfl; have e60 : b.tmps[60]?.getD undef = undef := HF.at rfl; go_simp) ?_
    clear HF b
    intro b HF
    show Code.wp _ _ _ _ _
    refine wp_cond_false (HF.get rfl) ?_
    refine wp_exit ?_
    show K _ _
    exact HKK.out x _ _ (HF.sub _ (List.forall_mem_cons.2 ⟨rfl, (List.forall_mem_cons.2 ⟨rfl, by intro p_ hp_; cases hp_⟩)⟩)) HM.out
set_option maxHeartbeats 2000000 in
set_option maxRecDepth 100000 in
theorem fewL5 {W : World} {m : S61} {ca : Array Value} {A : Option Addr} {a : Nat} (ga : k106.C W A m.f5.length m.f5) (ha : ca[5]? = some (.slice A m.f5.length a)) {K : Act → World → Prop} {R : Ending → World → Prop} {a1 : Act} {w1 : World} {x0 : Bool} (hF : Fr 156 a1 [(5, .int .i64 0), (3, .bool x0), (1, .pointer (some ⟨W.heap.size, 0, none⟩))]) (hm : Fw W w1 ca)
    (hK : ∀ x a' w', Fr 156 a' [(3, .bool x), (1, .pointer (some ⟨W.heap.size, 0, none⟩))] → Fw W w' ca → K a' w') : (blockOf Try.f15 2).wp Try.prog (Exit.then K (bodyPost Try.prog Try.f15 R)) a1 w1 := by
  have GA := Aside0.mk ga; have HA := Aside0.mk ha; have HKK := Aside0.mk hK
  clear ga ha hK
  refine wp_block ?_
  refine wp_loop_ghost (fun q_ b_ w_ => ∃ (k : Int) (x : Bool), 0 ≤ k ∧ (q_ : Int) + k = m.f5.length ∧ Fr 156 b_ [(5, .int .i64 k), (3, .bool x), (1, .pointer (some ⟨W.heap.size, 0, none⟩))] ∧ Fw W w_ ca) m.f5.length ⟨0, x0, Int.le_refl _, by omega, hF, hm⟩ ?_
  clear hF hm
  rintro q b wr ⟨k, x, hk0, hk1, HF, hm⟩
  have HM := Aside0.mk hm
  clear hm
  have XA := Aside0.mk (show wr.cell? ⟨W.heap.size, 5, none⟩ = some (.slice A m.f5.length a) from (HM.out.box.cell 5).trans HA.out)
  refine wp_seq ?_
  refine wp_seq ?_
  refine wp_region_lit ?_
  by_cases hlt : k < (m.f5.length : Int)
  · cases x
    case false =>
      have d0_ : decide (k < (m.f5.length : Int)) = true := decide_eq_true hlt
      refine listF rfl HF rfl (by decide) (v := .int .i64 k) (by have e5 : b.tmps[5]?.getD undef = .int .i64 k := HF.at rfl; go_simp) ?_
      clear HF b
      intro b HF
      refine listF rfl HF rfl (by decide) (v := .pointer (some ⟨W.heap.size, 5, none⟩)) (by have e1 : b.tmps[1]?.getD undef = .pointer (some ⟨W.heap.size, 0, none⟩) := HF.at rfl; go_simp) ?_
      clear HF b
      intro b HF
      refine listF rfl HF rfl (by decide) (v := .slice A m.f5.length a) (by have e82 : b.tmps[82]?.getD undef = .pointer (some ⟨W.heap.size, 5, none⟩) := HF.at rfl; have c_0 : wr.cell? ⟨W.heap.size, 5, none⟩ = some (.slice A m.f5.length a) := XA.out; go_simp) ?_
      clear HF b
      intro b HF
      refine listF rfl HF rfl (by decide) (v := .int .i64 (m.f5.length : Int)) (by have e83 : b.tmps[83]?.getD undef = .slice A m.f5.length a := HF.at rfl; go_simp) ?_
      clear HF b
      intro b HF
      refine listF rfl HF rfl (by decide) (v := .bool true) (by have e81 : b.tmps[81]?.getD undef = .int .i64 k := HF.at rfl; have e84 : b.tmps[84]?.getD undef = .int .i64 (m.f5.length : Int) := HF.at rfl; go_simp) ?_
      clear HF b
      intro b HF
      refine listF rfl HF rfl (by decide) (v := .bool true) (by have e85 : b.tmps[85]?.getD undef = .bool true := HF.at rfl; go_simp) ?_
      clear HF b
      intro b HF
      refine listF rfl HF rfl (by decide) (v := .bool false) (by have e3 : b.tmps[3]?.getD undef = .bool false := HF.at rfl; go_simp) ?_
      clear HF b
      intro b HF
      refine listF rfl HF rfl (by decide) (v := .bool false) (by have e86 : b.tmps[86]?.getD undef = .bool true := HF.at rfl; have e87 : b.tmps[87]?.getD undef = .bool false := HF.at rfl; go_simp) ?_
      clear HF b
      intro b HF
      show Code.wp _ _ _ _ _
      refine wp_cond_false (HF.get rfl) ?_
      refine wp_exit ?_
      show K _ _
      exact HKK.out false _ _ (HF.sub _ (List.forall_mem_cons.2 ⟨rfl, (List.forall_mem_cons.2 ⟨rfl, by intro p_ hp_; cases hp_⟩)⟩)) HM.out
    case true =>
      have d0_ : decide (k < (m.f5.length : Int)) = true := decide_eq_true hlt
      refine listF rfl HF rfl (by decide) (v := .int .i64 k) (by have e5 : b.tmps[5]?.getD undef = .int .i64 k := HF.at rfl; go_simp) ?_
      clear HF b
      intro b HF
      refine listF rfl HF rfl (by decide) (v := .pointer (some ⟨W.heap.size, 5, none⟩)) (by have e1 : b.tmps[1]?.getD undef = .pointer (some ⟨W.heap.size, 0, none⟩) := HF.at rfl; go_simp) ?_
      clear HF b
      intro b HF
      refine listF rfl HF rfl (by decide) (v := .slice A m.f5.length a) (by have e82 : b.tmps[82]?.getD undef = .pointer (some ⟨W.heap.size, 5, none⟩) := HF.at rfl; have c_0 : wr.cell? ⟨W.heap.size, 5, none⟩ = some (.slice A m.f5.length a) := XA.out; go_simp) ?_
      clear HF b
      intro b HF
      refine listF rfl HF rfl (by decide) (v := .int .i64 (m.f5.length : Int)) (by have e83 : b.tmps[83]?.getD undef = .slice A m.f5.length a := HF.at rfl; go_simp) ?_
      clear HF b
      intro b HF
      refine listF rfl HF rfl (by decide) (v := .bool true) (by have e81 : b.tmps[81]?.getD undef = .int .i64 k := HF.at rfl; have e84 : b.tmps[84]?.getD undef = .int .i64 (m.f5.length : Int) := HF.at rfl; go_simp) ?_
      clear HF b
      intro b HF
      refine listF rfl HF rfl (by decide) (v := .bool true) (by have e85 : b.tmps[85]?.getD undef = .bool true := HF.at rfl; go_simp) ?_
      clear HF b
      intro b HF
      refine listF rfl HF rfl (by decide) (v := .bool true) (by have e3 : b.tmps[3]?.getD undef = .bool true := HF.at rfl; go_simp) ?_
      clear HF b
      intro b HF
      refine listF rfl HF rfl (by decide) (v := .bool true) (by have e86 : b.tmps[86]?.getD undef = .bool true := HF.at rfl; have e87 : b.tmps[87]?.getD undef = .bool true := HF.at rfl; go_simp) ?_
      clear HF b
      intro b HF
      show Code.wp _ _ _ _ _
      refine wp_cond_true (HF.get rfl) ?_
      refine wp_skip ?_
      show Code.wp _ _ _ _ _
      refine wp_seq ?_
      refine wp_block ?_
      refine wp_region_lit ?_
      replace HF := HF.sub [(5, .int .i64 k), (3, .bool true), (1, .pointer (some ⟨W.heap.size, 0, none⟩))] (List.forall_mem_cons.2 ⟨rfl, (List.forall_mem_cons.2 ⟨rfl, (List.forall_mem_cons.2 ⟨rfl, by intro p_ hp_; cases hp_⟩)⟩)⟩)
      have ew : IntKind.i64.wrap (k + 1) = k + 1 := by have := Kd.C_max GA.out; rw [IntKind.wrap_i64]; omega
      obtain ⟨ad, Y5, y5, Y6, y6, Y7, y7, eA, q0, q1, q2, q3, q4, q5, q6, q7, q8, q9, q10, l5, g5, l6, g6, l7, g7⟩ := at_T106 GA.out k hk0 hlt
      cases eA
      generalize rd_T106 m.f5 k = y at *
      have HQ0 := Aside0.mk ((HM.out.low.cell (World.block_lt_of_cell? W _ q0)).trans q0); clear q0
      have HQ1 := Aside0.mk ((HM.out.low.cell (World.block_lt_of_cell? W _ q1)).trans q1); clear q1
      have HQ2 := Aside0.mk ((HM.out.low.cell (World.block_lt_of_cell? W _ q2)).trans q2); clear q2
      have HQ3 := Aside0.mk ((HM.out.low.cell (World.block_lt_of_cell? W _ q3)).trans q3); clear q3
      have HQ4 := Aside0.mk ((HM.out.low.cell (World.block_lt_of_cell? W _ q4)).trans q4); clear q4
      have HQ5 := Aside0.mk ((HM.out.low.cell (World.block_lt_of_cell? W _ q5)).trans q5); clear q5
      have HQ6 := Aside0.mk ((HM.out.low.cell (World.block_lt_of_cell? W _ q6)).trans q6); clear q6
      have HQ7 := Aside0.mk ((HM.out.low.cell (World.block_lt_of_cell? W _ q7)).trans q7); clear q7
      have HQ8 := Aside0.mk ((HM.out.low.cell (World.block_lt_of_cell? W _ q8)).trans q8); clear q8
      have HQ9 := Aside0.mk ((HM.out.low.cell (World.block_lt_of_cell? W _ q9)).trans q9); clear q9
      have HQ10 := Aside0.mk ((HM.out.low.cell (World.block_lt_of_cell? W _ q10)).trans q10); clear q10
      have Hl5 := Aside0.mk l5; clear l5
      have Hg5 := Aside0.mk g5; clear g5
      have Hl6 := Aside0.mk l6; clear l6
      have Hg6 := Aside0.mk g6; clear g6
      have Hl7 := Aside0.mk l7; clear l7
      have Hg7 := Aside0.mk g7; clear g7
      replace XA := Aside0.mk (show wr.cell? ⟨W.heap.size, 5, none⟩ = some (.slice (some ad) m.f5.length a) from XA.out)
      have d1_ : decide (0 ≤ k) = true := decide_eq_true hk0
      have d2_ : decide (k < (m.f5.length : Int)) = true := decide_eq_true hlt
      have dk0 : (0 : Int) ≤ k := hk0
      have dk1 : k < (m.f5.length : Int) := hlt
      refine listF rfl HF rfl (by decide) (v := .pointer (some ⟨W.heap.size, 5, none⟩)) (by have e1 : b.tmps[1]?.getD undef = .pointer (some ⟨W.heap.size, 0, none⟩) := HF.at rfl; go_simp) ?_
      clear HF b
      intro b HF
      refine listF rfl HF rfl (by decide) (v := .slice (some ad) m.f5.length a) (by have e91 : b.tmps[91]?.getD undef = .pointer (some ⟨W.heap.size, 5, none⟩) := HF.at rfl; have c_0 : wr.cell? ⟨W.heap.size, 5, none⟩ = some (.slice (some ad) m.f5.length a) := XA.out; go_simp) ?_
      clear HF b
      intro b HF
      refine listF rfl HF rfl (by decide) (v := .int .i64 k) (by have e5 : b.tmps[5]?.getD undef = .int .i64 k := HF.at rfl; go_simp) ?_
      clear HF b
      intro b HF
      refine listF rfl HF rfl (by decide) (v := .pointer (some (ad.add (k.toNat * 11)))) (by have e92 : b.tmps[92]?.getD undef = .slice (some ad) m.f5.length a := HF.at rfl; have e93 : b.tmps[93]?.getD undef = .int .i64 k := HF.at rfl; go_simp) ?_
      clear HF b
      intro b HF
      refine listF rfl HF rfl (by decide) (v := .pointer (some ⟨(ad.add (k.toNat * 11)).block, (ad.add (k.toNat * 11)).off + 2, none⟩)) (by have e94 : b.tmps[94]?.getD undef = .pointer (some (ad.add (k.toNat * 11))) := HF.at rfl; go_simp) ?_
      clear HF b
      intro b HF
      refine listF rfl HF rfl (by decide) (v := .agg #[.int .i64 y.f2.f0, .int .i64 y.f2.f1, .int .i64 y.f2.f2, .int .u64 y.f2.f3, .int .i64 y.f2.f4, .slice Y5 y.f2.f5.length y5, .slice Y6 y.f2.f6.length y6, .slice Y7 y.f2.f7.length y7, .bool y.f2.f8]) (by have e95 : b.tmps[95]?.getD undef = .pointer (some ⟨(ad.add (k.toNat * 11)).block, (ad.add (k.toNat * 11)).off + 2, none⟩) := HF.at rfl; have c_0 : wr.cell? ⟨(ad.add (k.toNat * 11)).block, (ad.add (k.toNat * 11)).off + 2, none⟩ = some (.int .i64 y.f2.f0) := HQ2.out; have c_1 : wr.cell? ⟨(ad.add (k.toNat * 11)).block, (ad.add (k.toNat * 11)).off + 3, none⟩ = some (.int .i64 y.f2.f1) := HQ3.out; have c_2 : wr.cell? ⟨(ad.add (k.toNat * 11)).block, (ad.add (k.toNat * 11)).off + 4, none⟩ = some (.int .i64 y.f2.f2) := HQ4.out; have c_3 : wr.cell? ⟨(ad.add (k.toNat * 11)).block, (ad.add (k.toNat * 11)).off + 5, none⟩ = some (.int .u64 y.f2.f3) := HQ5.out; have c_4 : wr.cell? ⟨(ad.add (k.toNat * 11)).block, (ad.add (k.toNat * 11)).off + 6, none⟩ = some (.int .i64 y.f2.f4) := HQ6.out; have c_5 : wr.cell? ⟨(ad.add (k.toNat * 11)).block, (ad.add (k.toNat * 11)).off + 7, none⟩ = some (.slice Y5 y.f2.f5.length y5) := HQ7.out; have c_6 : wr.cell? ⟨(ad.add (k.toNat * 11)).block, (ad.add (k.toNat * 11)).off + 8, none⟩ = some (.slice Y6 y.f2.f6.length y6) := HQ8.out; have c_7 : wr.cell? ⟨(ad.add (k.toNat * 11)).block, (ad.add (k.toNat * 11)).off + 9, none⟩ = some (.slice Y7 y.f2.f7.length y7) := HQ9.out; have c_8 : wr.cell? ⟨(ad.add (k.toNat * 11)).block, (ad.add (k.toNat * 11)).off + 10, none⟩ = some (.bool y.f2.f8) := HQ10.out; go_simp) ?_
      clear HF b
      intro b HF
      refine listC rfl HF rfl (by decide) (fun K_ hK_ => ?_)
      have e96 : b.tmps[96]?.getD undef = .agg #[.int .i64 y.f2.f0, .int .i64 y.f2.f1, .int .i64 y.f2.f2, .int .u64 y.f2.f3, .int .i64 y.f2.f4, .slice Y5 y.f2.f5.length y5, .slice Y6 y.f2.f6.length y6, .slice Y7 y.f2.f7.length y7, .bool y.f2.f8] := HF.at rfl
      go_simp
      clear e96
      refine (single_calls y.f2 Hl5.out (Kd.C_below Hg5.out HM.out.low) Hl6.out (Kd.C_below Hg6.out HM.out.low) Hl7.out (Kd.C_below Hg7.out HM.out.low)).mono ?_
      rintro e w106 ⟨g, rfl, hC, hb_⟩
      have HC := Aside0.mk hC
      have hx_ : Below wr.heap.size wr w106 := hb_
      replace HM := Aside0.mk (HM.out.step hb_)
      replace XA := Aside0.mk (pw_cell_below hb_ XA.out)
      replace HQ0 := Aside0.mk (pw_cell_below hb_ HQ0.out)
      replace HQ1 := Aside0.mk (pw_cell_below hb_ HQ1.out)
      replace HQ2 := Aside0.mk (pw_cell_below hb_ HQ2.out)
      replace HQ3 := Aside0.mk (pw_cell_below hb_ HQ3.out)
      replace HQ4 := Aside0.mk (pw_cell_below hb_ HQ4.out)
      replace HQ5 := Aside0.mk (pw_cell_below hb_ HQ5.out)
      replace HQ6 := Aside0.mk (pw_cell_below hb_ HQ6.out)
      replace HQ7 := Aside0.mk (pw_cell_below hb_ HQ7.out)
      replace HQ8 := Aside0.mk (pw_cell_below hb_ HQ8.out)
      replace HQ9 := Aside0.mk (pw_cell_below hb_ HQ9.out)
      replace HQ10 := Aside0.mk (pw_cell_below hb_ HQ10.out)
      clear hb_ hx_ hC
      refine hK_.out _ _ ?_
      clear hK_ K_ HF b
      intro b HF
      refine listC rfl HF rfl (by decide) (fun K_ hK_ => ?_)
      have e97 : b.tmps[97]?.getD undef = .slice (some ⟨g, 0, none⟩) 1 1 := HF.at rfl
      go_simp
      clear e97
      refine (few_calls HC.out (Nat.le_refl 1)).mono ?_
      rintro e w107 ⟨r, rfl, hb_⟩
      have hx_ : Below w106.heap.size w106 w107 := hb_
      replace HM := Aside0.mk (HM.out.step hb_)
      replace XA := Aside0.mk (pw_cell_below hb_ XA.out)
      replace HQ0 := Aside0.mk (pw_cell_below hb_ HQ0.out)
      replace HQ1 := Aside0.mk (pw_cell_below hb_ HQ1.out)
      replace HQ2 := Aside0.mk (pw_cell_below hb_ HQ2.out)
      replace HQ3 := Aside0.mk (pw_cell_below hb_ HQ3.out)
      replace HQ4 := Aside0.mk (pw_cell_below hb_ HQ4.out)
      replace HQ5 := Aside0.mk (pw_cell_below hb_ HQ5.out)
      replace HQ6 := Aside0.mk (pw_cell_below hb_ HQ6.out)
      replace HQ7 := Aside0.mk (pw_cell_below hb_ HQ7.out)
      replace HQ8 := Aside0.mk (pw_cell_below hb_ HQ8.out)
      replace HQ9 := Aside0.mk (pw_cell_below hb_ HQ9.out)
      replace HQ10 := Aside0.mk (pw_cell_below hb_ HQ10.out)
      clear hb_ hx_
      refine hK_.out _ _ ?_
      clear hK_ K_ HF b
      intro b HF
      refine listF rfl HF rfl (by decide) (v := .bool r) (by have e98 : b.tmps[98]?.getD undef = .bool r := HF.at rfl; go_simp) ?_
      clear HF b
      intro b HF
      show Code.wp _ _ _ _ _
      refine wp_region_lit ?_
      replace HF := HF.sub [(5, .int .i64 k), (3, .bool r), (1, .pointer (some ⟨W.heap.size, 0, none⟩))] (List.forall_mem_cons.2 ⟨rfl, (List.forall_mem_cons.2 ⟨rfl, (List.forall_mem_cons.2 ⟨rfl, by intro p_ hp_; cases hp_⟩)⟩)⟩)
      refine listF rfl HF rfl (by decide) (v := .int .i64 k) (by have e5 : b.tmps[5]?.getD undef = .int .i64 k := HF.at rfl; go_simp) ?_
      clear HF b
      intro b HF
      refine listF rfl HF rfl (by decide) (v := .int .i64 (k + 1)) (by have e89 : b.tmps[89]?.getD undef = .int .i64 k := HF.at rfl; go_simp) ?_
      clear HF b
      intro b HF
      refine listF rfl HF rfl (by decide) (v := .int .i64 (k + 1)) (by have e90 : b.tmps[90]?.getD undef = .int .i64 (k + 1) := HF.at rfl; go_simp) ?_
      clear HF b
      intro b HF
      exact ⟨(m.f5.length - (k + 1).toNat : Nat), by omega, k + 1, _, by omega, by omega, HF.sub _ (List.forall_mem_cons.2 ⟨rfl, (List.forall_mem_cons.2 ⟨rfl, (List.forall_mem_cons.2 ⟨rfl, by intro p_ hp_; cases hp_⟩)⟩)⟩), HM.out⟩
  · have d0_ : decide (k < (m.f5.length : Int)) = false := decide_eq_false hlt
    refine listF rfl HF rfl (by decide) (v := .int .i64 k) (by have e5 : b.tmps[5]?.getD undef = .int .i64 k := HF.at rfl; go_simp) ?_
    clear HF b
    intro b HF
    refine listF rfl HF rfl (by decide) (v := .pointer (some ⟨W.heap.size, 5, none⟩)) (by have e1 : b.tmps[1]?.getD undef = .pointer (some ⟨W.heap.size, 0, none⟩) := HF.at rfl; go_simp) ?_
    clear HF b
    intro b HF
    refine listF rfl HF rfl (by decide) (v := .slice A m.f5.length a) (by have e82 : b.tmps[82]?.getD undef = .pointer (some ⟨W.heap.size, 5, none⟩) := HF.at rfl; have c_0 : wr.cell? ⟨W.heap.size, 5, none⟩ = some (.slice A m.f5.length a) := XA.out; go_simp) ?_
    clear HF b
    intro b HF
    refine listF rfl HF rfl (by decide) (v := .int .i64 (m.f5.length : Int)) (by have e83 : b.tmps[83]?.getD undef = .slice A m.f5.length a := HF.at rfl; go_simp) ?_
    clear HF b
    intro b HF
    refine listF rfl HF rfl (by decide) (v := .bool false) (by have e81 : b.tmps[81]?.getD undef = .int .i64 k := HF.at rfl; have e84 : b.tmps[84]?.getD undef = .int .i64 (m.f5.length : Int) := HF.at rfl; go_simp) ?_
    clear HF b
    intro b HF
    refine listF rfl HF rfl (by decide) (v := .bool false) (by have e85 : b.tmps[85]?.getD undef = .bool false := HF.at rfl; go_simp) ?_
    clear HF b
    intro b HF
    refine listO rfl HF rfl (by decide) ?_
    clear HF b
    intro b HF
    refine listF rfl HF rfl (by decide) (v := .bool false) (by have e86 : b.tmps[86]?.getD undef = .bool false := HF.at rfl; have e87 : b.tmps[87]?.getD undef = undef := HF.at rfl; go_simp) ?_
    clear HF b
    intro b HF
    show Code.wp _ _ _ _ _
    refine wp_cond_false (HF.get rfl) ?_
    refine wp_exit ?_
    show K _ _
    exact HKK.out x _ _ (HF.sub _ (List.forall_mem_cons.2 ⟨rfl, (List.forall_mem_cons.2 ⟨rfl, by intro p_ hp_; cases hp_⟩)⟩)) HM.out
set_option maxHeartbeats 2000000 in
set_option maxRecDepth 100000 in
theorem fewL8 {W : World} {m : S61} {ca : Array Value} {A : Option Addr} {a : Nat} (ga : k108.C W A m.f8.length m.f8) (ha : ca[8]? = some (.slice A m.f8.length a)) {K : Act → World → Prop} {R : Ending → World → Prop} {a1 : Act} {w1 : World} {x0 : Bool} (hF : Fr 156 a1 [(6, .int .i64 0), (3, .bool x0), (1, .pointer (some ⟨W.heap.size, 0, none⟩))]) (hm : Fw W w1 ca)
    (hK : ∀ x a' w', Fr 156 a' [(3, .bool x), (1, .pointer (some ⟨W.heap.size, 0, none⟩))] → Fw W w' ca → K a' w') : (blockOf Try.f15 4).wp Try.prog (Exit.then K (bodyPost Try.prog Try.f15 R)) a1 w1 := by
  have GA := Aside0.mk ga; have HA := Aside0.mk ha; have HKK := Aside0.mk hK
  clear ga ha hK
  refine wp_block ?_
  refine wp_loop_ghost (fun q_ b_ w_ => ∃ (k : Int) (x : Bool), 0 ≤ k ∧ (q_ : Int) + k = m.f8.length ∧ Fr 156 b_ [(6, .int .i64 k), (3, .bool x), (1, .pointer (some ⟨W.heap.size, 0, none⟩))] ∧ Fw W w_ ca) m.f8.length ⟨0, x0, Int.le_refl _, by omega, hF, hm⟩ ?_
  clear hF hm
  rintro q b wr ⟨k, x, hk0, hk1, HF, hm⟩
  have HM := Aside0.mk hm
  clear hm
  have XA := Aside0.mk (show wr.cell? ⟨W.heap.size, 8, none⟩ = some (.slice A m.f8.length a) from (HM.out.box.cell 8).trans HA.out)
  refine wp_seq ?_
  refine wp_seq ?_
  refine wp_region_lit ?_
  by_cases hlt : k < (m.f8.length : Int)
  · cases x
    case false =>
      have d0_ : decide (k < (m.f8.length : Int)) = true := decide_eq_true hlt
      refine listF rfl HF rfl (by decide) (v := .int .i64 k) (by have e6 : b.tmps[6]?.getD undef = .int .i64 k := HF.at rfl; go_simp) ?_
      clear HF b
      intro b HF
      refine listF rfl HF rfl (by decide) (v := .pointer (some ⟨W.heap.size, 8, none⟩)) (by have e1 : b.tmps[1]?.getD undef = .pointer (some ⟨W.heap.size, 0, none⟩) := HF.at rfl; go_simp) ?_
      clear HF b
      intro b HF
      refine listF rfl HF rfl (by decide) (v := .slice A m.f8.length a) (by have e100 : b.tmps[100]?.getD undef = .pointer (some ⟨W.heap.size, 8, none⟩) := HF.at rfl; have c_0 : wr.cell? ⟨W.heap.size, 8, none⟩ = some (.slice A m.f8.length a) := XA.out; go_simp) ?_
      clear HF b
      intro b HF
      refine listF rfl HF rfl (by decide) (v := .int .i64 (m.f8.length : Int)) (by have e101 : b.tmps[101]?.getD undef = .slice A m.f8.length a := HF.at rfl; go_simp) ?_
      clear HF b
      intro b HF
      refine listF rfl HF rfl (by decide) (v := .bool true) (by have e99 : b.tmps[99]?.getD undef = .int .i64 k := HF.at rfl; have e102 : b.tmps[102]?.getD undef = .int .i64 (m.f8.length : Int) := HF.at rfl; go_simp) ?_
      clear HF b
      intro b HF
      refine listF rfl HF rfl (by decide) (v := .bool true) (by have e103 : b.tmps[103]?.getD undef = .bool true := HF.at rfl; go_simp) ?_
      clear HF b
      intro b HF
      refine listF rfl HF rfl (by decide) (v := .bool false) (by have e3 : b.tmps[3]?.getD undef = .bool false := HF.at rfl; go_simp) ?_
      clear HF b
      intro b HF
      refine listF rfl HF rfl (by decide) (v := .bool false) (by have e104 : b.tmps[104]?.getD undef = .bool true := HF.at rfl; have e105 : b.tmps[105]?.getD undef = .bool false := HF.at rfl; go_simp) ?_
      clear HF b
      intro b HF
      show Code.wp _ _ _ _ _
      refine wp_cond_false (HF.get rfl) ?_
      refine wp_exit ?_
      show K _ _
      exact HKK.out false _ _ (HF.sub _ (List.forall_mem_cons.2 ⟨rfl, (List.forall_mem_cons.2 ⟨rfl, by intro p_ hp_; cases hp_⟩)⟩)) HM.out
    case true =>
      have d0_ : decide (k < (m.f8.length : Int)) = true := decide_eq_true hlt
      refine listF rfl HF rfl (by decide) (v := .int .i64 k) (by have e6 : b.tmps[6]?.getD undef = .int .i64 k := HF.at rfl; go_simp) ?_
      clear HF b
      intro b HF
      refine listF rfl HF rfl (by decide) (v := .pointer (some ⟨W.heap.size, 8, none⟩)) (by have e1 : b.tmps[1]?.getD undef = .pointer (some ⟨W.heap.size, 0, none⟩) := HF.at rfl; go_simp) ?_
      clear HF b
      intro b HF
      refine listF rfl HF rfl (by decide) (v := .slice A m.f8.length a) (by have e100 : b.tmps[100]?.getD undef = .pointer (some ⟨W.heap.size, 8, none⟩) := HF.at rfl; have c_0 : wr.cell? ⟨W.heap.size, 8, none⟩ = some (.slice A m.f8.length a) := XA.out; go_simp) ?_
      clear HF b
      intro b HF
      refine listF rfl HF rfl (by decide) (v := .int .i64 (m.f8.length : Int)) (by have e101 : b.tmps[101]?.getD undef = .slice A m.f8.length a := HF.at rfl; go_simp) ?_
      clear HF b
      intro b HF
      refine listF rfl HF rfl (by decide) (v := .bool true) (by have e99 : b.tmps[99]?.getD undef = .int .i64 k := HF.at rfl; have e102 : b.tmps[102]?.getD undef = .int .i64 (m.f8.length : Int) := HF.at rfl; go_simp) ?_
      clear HF b
      intro b HF
      refine listF rfl HF rfl (by decide) (v := .bool true) (by have e103 : b.tmps[103]?.getD undef = .bool true := HF.at rfl; go_simp) ?_
      clear HF b
      intro b HF
      refine listF rfl HF rfl (by decide) (v := .bool true) (by have e3 : b.tmps[3]?.getD undef = .bool true := HF.at rfl; go_simp) ?_
      clear HF b
      intro b HF
      refine listF rfl HF rfl (by decide) (v := .bool true) (by have e104 : b.tmps[104]?.getD undef = .bool true := HF.at rfl; have e105 : b.tmps[105]?.getD undef = .bool true := HF.at rfl; go_simp) ?_
      clear HF b
      intro b HF
      show Code.wp _ _ _ _ _
      refine wp_cond_true (HF.get rfl) ?_
      refine wp_skip ?_
      show Code.wp _ _ _ _ _
      refine wp_seq ?_
      refine wp_block ?_
      refine wp_region_lit ?_
      replace HF := HF.sub [(6, .int .i64 k), (3, .bool true), (1, .pointer (some ⟨W.heap.size, 0, none⟩))] (List.forall_mem_cons.2 ⟨rfl, (List.forall_mem_cons.2 ⟨rfl, (List.forall_mem_cons.2 ⟨rfl, by intro p_ hp_; cases hp_⟩)⟩)⟩)
      have ew : IntKind.i64.wrap (k + 1) = k + 1 := by have := Kd.C_max GA.out; rw [IntKind.wrap_i64]; omega
      obtain ⟨ad, Y5, y5, Y6, y6, Y7, y7, Y9, y9, eA, q0, q1, q2, q3, q4, q5, q6, q7, q8, q9, l5, g5, l6, g6, l7, g7, l9, g9⟩ := at_T108 GA.out k hk0 hlt
      cases eA
      generalize rd_T108 m.f8 k = y at *
      have HQ0 := Aside0.mk ((HM.out.low.cell (World.block_lt_of_cell? W _ q0)).trans q0); clear q0
      have HQ1 := Aside0.mk ((HM.out.low.cell (World.block_lt_of_cell? W _ q1)).trans q1); clear q1
      have HQ2 := Aside0.mk ((HM.out.low.cell (World.block_lt_of_cell? W _ q2)).trans q2); clear q2
      have HQ3 := Aside0.mk ((HM.out.low.cell (World.block_lt_of_cell? W _ q3)).trans q3); clear q3
      have HQ4 := Aside0.mk ((HM.out.low.cell (World.block_lt_of_cell? W _ q4)).trans q4); clear q4
      have HQ5 := Aside0.mk ((HM.out.low.cell (World.block_lt_of_cell? W _ q5)).trans q5); clear q5
      have HQ6 := Aside0.mk ((HM.out.low.cell (World.block_lt_of_cell? W _ q6)).trans q6); clear q6
      have HQ7 := Aside0.mk ((HM.out.low.cell (World.block_lt_of_cell? W _ q7)).trans q7); clear q7
      have HQ8 := Aside0.mk ((HM.out.low.cell (World.block_lt_of_cell? W _ q8)).trans q8); clear q8
      have HQ9 := Aside0.mk ((HM.out.low.cell (World.block_lt_of_cell? W _ q9)).trans q9); clear q9
      have Hl5 := Aside0.mk l5; clear l5
      have Hg5 := Aside0.mk g5; clear g5
      have Hl6 := Aside0.mk l6; clear l6
      have Hg6 := Aside0.mk g6; clear g6
      have Hl7 := Aside0.mk l7; clear l7
      have Hg7 := Aside0.mk g7; clear g7
      have Hl9 := Aside0.mk l9; clear l9
      have Hg9 := Aside0.mk g9; clear g9
      replace XA := Aside0.mk (show wr.cell? ⟨W.heap.size, 8, none⟩ = some (.slice (some ad) m.f8.length a) from XA.out)
      have d1_ : decide (0 ≤ k) = true := decide_eq_true hk0
      have d2_ : decide (k < (m.f8.length : Int)) = true := decide_eq_true hlt
      have dk0 : (0 : Int) ≤ k := hk0
      have dk1 : k < (m.f8.length : Int) := hlt
      refine listF rfl HF rfl (by decide) (v := .pointer (some ⟨W.heap.size, 8, none⟩)) (by have e1 : b.tmps[1]?.getD undef = .pointer (some ⟨W.heap.size, 0, none⟩) := HF.at rfl; go_simp) ?_
      clear HF b
      intro b HF
      refine listF rfl HF rfl (by decide) (v := .slice (some ad) m.f8.length a) (by have e109 : b.tmps[109]?.getD undef = .pointer (some ⟨W.heap.size, 8, none⟩) := HF.at rfl; have c_0 : wr.cell? ⟨W.heap.size, 8, none⟩ = some (.slice (some ad) m.f8.length a) := XA.out; go_simp) ?_
      clear HF b
      intro b HF
      refine listF rfl HF rfl (by decide) (v := .int .i64 k) (by have e6 : b.tmps[6]?.getD undef = .int .i64 k := HF.at rfl; go_simp) ?_
      clear HF b
      intro b HF
      refine listF rfl HF rfl (by decide) (v := .pointer (some (ad.add (k.toNat * 10)))) (by have e110 : b.tmps[110]?.getD undef = .slice (some ad) m.f8.length a := HF.at rfl; have e111 : b.tmps[111]?.getD undef = .int .i64 k := HF.at rfl; go_simp) ?_
      clear HF b
      intro b HF
      refine listF rfl HF rfl (by decide) (v := .pointer (some (ad.add (k.toNat * 10)))) (by have e112 : b.tmps[112]?.getD undef = .pointer (some (ad.add (k.toNat * 10))) := HF.at rfl; go_simp) ?_
      clear HF b
      intro b HF
      refine listF rfl HF rfl (by decide) (v := .agg #[.int .i64 y.f0.f0, .int .i64 y.f0.f1, .int .i64 y.f0.f2, .int .u64 y.f0.f3, .int .i64 y.f0.f4, .slice Y5 y.f0.f5.length y5, .slice Y6 y.f0.f6.length y6, .slice Y7 y.f0.f7.length y7, .bool y.f0.f8]) (by have e113 : b.tmps[113]?.getD undef = .pointer (some (ad.add (k.toNat * 10))) := HF.at rfl; have c_0 : wr.cell? (ad.add (k.toNat * 10)) = some (.int .i64 y.f0.f0) := HQ0.out; have c_1 : wr.cell? ⟨(ad.add (k.toNat * 10)).block, (ad.add (k.toNat * 10)).off + 1, none⟩ = some (.int .i64 y.f0.f1) := HQ1.out; have c_2 : wr.cell? ⟨(ad.add (k.toNat * 10)).block, (ad.add (k.toNat * 10)).off + 2, none⟩ = some (.int .i64 y.f0.f2) := HQ2.out; have c_3 : wr.cell? ⟨(ad.add (k.toNat * 10)).block, (ad.add (k.toNat * 10)).off + 3, none⟩ = some (.int .u64 y.f0.f3) := HQ3.out; have c_4 : wr.cell? ⟨(ad.add (k.toNat * 10)).block, (ad.add (k.toNat * 10)).off + 4, none⟩ = some (.int .i64 y.f0.f4) := HQ4.out; have c_5 : wr.cell? ⟨(ad.add (k.toNat * 10)).block, (ad.add (k.toNat * 10)).off + 5, none⟩ = some (.slice Y5 y.f0.f5.length y5) := HQ5.out; have c_6 : wr.cell? ⟨(ad.add (k.toNat * 10)).block, (ad.add (k.toNat * 10)).off + 6, none⟩ = some (.slice Y6 y.f0.f6.length y6) := HQ6.out; have c_7 : wr.cell? ⟨(ad.add (k.toNat * 10)).block, (ad.add (k.toNat * 10)).off + 7, none⟩ = some (.slice Y7 y.f0.f7.length y7) := HQ7.out; have c_8 : wr.cell? ⟨(ad.add (k.toNat * 10)).block, (ad.add (k.toNat * 10)).off + 8, none⟩ = some (.bool y.f0.f8) := HQ8.out; go_simp) ?_
      clear HF b
      intro b HF
      refine listC rfl HF rfl (by decide) (fun K_ hK_ => ?_)
      have e114 : b.tmps[114]?.getD undef = .agg #[.int .i64 y.f0.f0, .int .i64 y.f0.f1, .int .i64 y.f0.f2, .int .u64 y.f0.f3, .int .i64 y.f0.f4, .slice Y5 y.f0.f5.length y5, .slice Y6 y.f0.f6.length y6, .slice Y7 y.f0.f7.length y7, .bool y.f0.f8] := HF.at rfl
      go_simp
      clear e114
      refine (single_calls y.f0 Hl5.out (Kd.C_below Hg5.out HM.out.low) Hl6.out (Kd.C_below Hg6.out HM.out.low) Hl7.out (Kd.C_below Hg7.out HM.out.low)).mono ?_
      rintro e w106 ⟨g, rfl, hC, hb_⟩
      have HC := Aside0.mk hC
      have hx_ : Below wr.heap.size wr w106 := hb_
      replace HM := Aside0.mk (HM.out.step hb_)
      replace XA := Aside0.mk (pw_cell_below hb_ XA.out)
      replace HQ0 := Aside0.mk (pw_cell_below hb_ HQ0.out)
      replace HQ1 := Aside0.mk (pw_cell_below hb_ HQ1.out)
      replace HQ2 := Aside0.mk (pw_cell_below hb_ HQ2.out)
      replace HQ3 := Aside0.mk (pw_cell_below hb_ HQ3.out)
      replace HQ4 := Aside0.mk (pw_cell_below hb_ HQ4.out)
      replace HQ5 := Aside0.mk (pw_cell_below hb_ HQ5.out)
      replace HQ6 := Aside0.mk (pw_cell_below hb_ HQ6.out)
      replace HQ7 := Aside0.mk (pw_cell_below hb_ HQ7.out)
      replace HQ8 := Aside0.mk (pw_cell_below hb_ HQ8.out)
      replace HQ9 := Aside0.mk (pw_cell_below hb_ HQ9.out)
      clear hb_ hx_ hC
      refine hK_.out _ _ ?_
      clear hK_ K_ HF b
      intro b HF
      refine listC rfl HF rfl (by decide) (fun K_ hK_ => ?_)
      have e115 : b.tmps[115]?.getD undef = .slice (some ⟨g, 0, none⟩) 1 1 := HF.at rfl
      go_simp
      clear e115
      refine (few_calls HC.out (Nat.le_refl 1)).mono ?_
      rintro e w107 ⟨r, rfl, hb_⟩
      have hx_ : Below w106.heap.size w106 w107 := hb_
      replace HM := Aside0.mk (HM.out.step hb_)
      replace XA := Aside0.mk (pw_cell_below hb_ XA.out)
      replace HQ0 := Aside0.mk (pw_cell_below hb_ HQ0.out)
      replace HQ1 := Aside0.mk (pw_cell_below hb_ HQ1.out)
      replace HQ2 := Aside0.mk (pw_cell_below hb_ HQ2.out)
      replace HQ3 := Aside0.mk (pw_cell_below hb_ HQ3.out)
      replace HQ4 := Aside0.mk (pw_cell_below hb_ HQ4.out)
      replace HQ5 := Aside0.mk (pw_cell_below hb_ HQ5.out)
      replace HQ6 := Aside0.mk (pw_cell_below hb_ HQ6.out)
      replace HQ7 := Aside0.mk (pw_cell_below hb_ HQ7.out)
      replace HQ8 := Aside0.mk (pw_cell_below hb_ HQ8.out)
      replace HQ9 := Aside0.mk (pw_cell_below hb_ HQ9.out)
      clear hb_ hx_
      refine hK_.out _ _ ?_
      clear hK_ K_ HF b
      intro b HF
      cases r
      case false =>
        refine listF rfl HF rfl (by decide) (v := .bool false) (by have e116 : b.tmps[116]?.getD undef = .bool false := HF.at rfl; go_simp) ?_
        clear HF b
        intro b HF
        refine listO rfl HF rfl (by decide) ?_
        clear HF b
        intro b HF
        refine listO rfl HF rfl (by decide) ?_
        clear HF b
        intro b HF
        refine listO rfl HF rfl (by decide) ?_
        clear HF b
        intro b HF
        refine listO rfl HF rfl (by decide) ?_
        clear HF b
        intro b HF
        refine listO rfl HF rfl (by decide) ?_
        clear HF b
        intro b HF
        refine listO rfl HF rfl (by decide) ?_
        clear HF b
        intro b HF
        refine listO rfl HF rfl (by decide) ?_
        clear HF b
        intro b HF
        refine listO rfl HF rfl (by decide) ?_
        clear HF b
        intro b HF
        refine listF rfl HF rfl (by decide) (v := .bool false) (by have e117 : b.tmps[117]?.getD undef = .bool false := HF.at rfl; have e125 : b.tmps[125]?.getD undef = undef := HF.at rfl; go_simp) ?_
        clear HF b
        intro b HF
        refine listF rfl HF rfl (by decide) (v := .bool false) (by have e126 : b.tmps[126]?.getD undef = .bool false := HF.at rfl; go_simp) ?_
        clear HF b
        intro b HF
        show Code.wp _ _ _ _ _
        refine wp_region_lit ?_
        replace HF := HF.sub [(6, .int .i64 k), (3, .bool false), (1, .pointer (some ⟨W.heap.size, 0, none⟩))] (List.forall_mem_cons.2 ⟨rfl, (List.forall_mem_cons.2 ⟨rfl, (List.forall_mem_cons.2 ⟨rfl, by intro p_ hp_; cases hp_⟩)⟩)⟩)
        refine listF rfl HF rfl (by decide) (v := .int .i64 k) (by have e6 : b.tmps[6]?.getD undef = .int .i64 k := HF.at rfl; go_simp) ?_
        clear HF b
        intro b HF
        refine listF rfl HF rfl (by decide) (v := .int .i64 (k + 1)) (by have e107 : b.tmps[107]?.getD undef = .int .i64 k := HF.at rfl; go_simp) ?_
        clear HF b
        intro b HF
        refine listF rfl HF rfl (by decide) (v := .int .i64 (k + 1)) (by have e108 : b.tmps[108]?.getD undef = .int .i64 (k + 1) := HF.at rfl; go_simp) ?_
        clear HF b
        intro b HF
        exact ⟨(m.f8.length - (k + 1).toNat : Nat), by omega, k + 1, _, by omega, by omega, HF.sub _ (List.forall_mem_cons.2 ⟨rfl, (List.forall_mem_cons.2 ⟨rfl, (List.forall_mem_cons.2 ⟨rfl, by intro p_ hp_; cases hp_⟩)⟩)⟩), HM.out⟩
      case true =>
        refine listF rfl HF rfl (by decide) (v := .bool true) (by have e116 : b.tmps[116]?.getD undef = .bool true := HF.at rfl; go_simp) ?_
        clear HF b
        intro b HF
        refine listF rfl HF rfl (by decide) (v := .pointer (some ⟨W.heap.size, 8, none⟩)) (by have e1 : b.tmps[1]?.getD undef = .pointer (some ⟨W.heap.size, 0, none⟩) := HF.at rfl; go_simp) ?_
        clear HF b
        intro b HF
        refine listF rfl HF rfl (by decide) (v := .slice (some ad) m.f8.length a) (by have e118 : b.tmps[118]?.getD undef = .pointer (some ⟨W.heap.size, 8, none⟩) := HF.at rfl; have c_0 : w107.cell? ⟨W.heap.size, 8, none⟩ = some (.slice (some ad) m.f8.length a) := XA.out; go_simp) ?_
        clear HF b
        intro b HF
        refine listF rfl HF rfl (by decide) (v := .int .i64 k) (by have e6 : b.tmps[6]?.getD undef = .int .i64 k := HF.at rfl; go_simp) ?_
        clear HF b
        intro b HF
        refine listF rfl HF rfl (by decide) (v := .pointer (some (ad.add (k.toNat * 10)))) (by have e119 : b.tmps[119]?.getD undef = .slice (some ad) m.f8.length a := HF.at rfl; have e120 : b.tmps[120]?.getD undef = .int .i64 k := HF.at rfl; go_simp) ?_
        clear HF b
        intro b HF
        refine listF rfl HF rfl (by decide) (v := .pointer (some ⟨(ad.add (k.toNat * 10)).block, (ad.add (k.toNat * 10)).off + 9, none⟩)) (by have e121 : b.tmps[121]?.getD undef = .pointer (some (ad.add (k.toNat * 10))) := HF.at rfl; go_simp) ?_
        clear HF b
        intro b HF
        refine listF rfl HF rfl (by decide) (v := .slice Y9 y.f1.length y9) (by have e122 : b.tmps[122]?.getD undef = .pointer (some ⟨(ad.add (k.toNat * 10)).block, (ad.add (k.toNat * 10)).off + 9, none⟩) := HF.at rfl; have c_0 : w107.cell? ⟨(ad.add (k.toNat * 10)).block, (ad.add (k.toNat * 10)).off + 9, none⟩ = some (.slice Y9 y.f1.length y9) := HQ9.out; go_simp) ?_
        clear HF b
        intro b HF
        refine listF rfl HF rfl (by decide) (v := .int .i64 (y.f1.length : Int)) (by have e123 : b.tmps[123]?.getD undef = .slice Y9 y.f1.length y9 := HF.at rfl; go_simp) ?_
        clear HF b
        intro b HF
        refine listF rfl HF rfl (by decide) (v := .bool (decide ((y.f1.length : Int) ≤ 1000))) (by have e124 : b.tmps[124]?.getD undef = .int .i64 (y.f1.length : Int) := HF.at rfl; go_simp) ?_
        clear HF b
        intro b HF
        refine listF rfl HF rfl (by decide) (v := .bool (decide ((y.f1.length : Int) ≤ 1000))) (by have e117 : b.tmps[117]?.getD undef = .bool true := HF.at rfl; have e125 : b.tmps[125]?.getD undef = .bool (decide ((y.f1.length : Int) ≤ 1000)) := HF.at rfl; go_simp) ?_
        clear HF b
        intro b HF
        refine listF rfl HF rfl (by decide) (v := .bool (decide ((y.f1.length : Int) ≤ 1000))) (by have e126 : b.tmps[126]?.getD undef = .bool (decide ((y.f1.length : Int) ≤ 1000)) := HF.at rfl; go_simp) ?_
        clear HF b
        intro b HF
        show Code.wp _ _ _ _ _
        refine wp_region_lit ?_
        replace HF := HF.sub [(6, .int .i64 k), (3, .bool (decide ((y.f1.length : Int) ≤ 1000))), (1, .pointer (some ⟨W.heap.size, 0, none⟩))] (List.forall_mem_cons.2 ⟨rfl, (List.forall_mem_cons.2 ⟨rfl, (List.forall_mem_cons.2 ⟨rfl, by intro p_ hp_; cases hp_⟩)⟩)⟩)
        refine listF rfl HF rfl (by decide) (v := .int .i64 k) (by have e6 : b.tmps[6]?.getD undef = .int .i64 k := HF.at rfl; go_simp) ?_
        clear HF b
        intro b HF
        refine listF rfl HF rfl (by decide) (v := .int .i64 (k + 1)) (by have e107 : b.tmps[107]?.getD undef = .int .i64 k := HF.at rfl; go_simp) ?_
        clear HF b
        intro b HF
        refine listF rfl HF rfl (by decide) (v := .int .i64 (k + 1)) (by have e108 : b.tmps[108]?.getD undef = .int .i64 (k + 1) := HF.at rfl; go_simp) ?_
        clear HF b
        intro b HF
        exact ⟨(m.f8.length - (k + 1).toNat : Nat), by omega, k + 1, _, by omega, by omega, HF.sub _ (List.forall_mem_cons.2 ⟨rfl, (List.forall_mem_cons.2 ⟨rfl, (List.forall_mem_cons.2 ⟨rfl, by intro p_ hp_; cases hp_⟩)⟩)⟩), HM.out⟩
  · have d0_ : decide (k < (m.f8.length : Int)) = false := decide_eq_false hlt
    refine listF rfl HF rfl (by decide) (v := .int .i64 k) (by have e6 : b.tmps[6]?.getD undef = .int .i64 k := HF.at rfl; go_simp) ?_
    clear HF b
    intro b HF
    refine listF rfl HF rfl (by decide) (v := .pointer (some ⟨W.heap.size, 8, none⟩)) (by have e1 : b.tmps[1]?.getD undef = .pointer (some ⟨W.heap.size, 0, none⟩) := HF.at rfl; go_simp) ?_
    clear HF b
    intro b HF
    refine listF rfl HF rfl (by decide) (v := .slice A m.f8.length a) (by have e100 : b.tmps[100]?.getD undef = .pointer (some ⟨W.heap.size, 8, none⟩) := HF.at rfl; have c_0 : wr.cell? ⟨W.heap.size, 8, none⟩ = some (.slice A m.f8.length a) := XA.out; go_simp) ?_
    clear HF b
    intro b HF
    refine listF rfl HF rfl (by decide) (v := .int .i64 (m.f8.length : Int)) (by have e101 : b.tmps[101]?.getD undef = .slice A m.f8.length a := HF.at rfl; go_simp) ?_
    clear HF b
    intro b HF
    refine listF rfl HF rfl (by decide) (v := .bool false) (by have e99 : b.tmps[99]?.getD undef = .int .i64 k := HF.at rfl; have e102 : b.tmps[102]?.getD undef = .int .i64 (m.f8.length : Int) := HF.at rfl; go_simp) ?_
    clear HF b
    intro b HF
    refine listF rfl HF rfl (by decide) (v := .bool false) (by have e103 : b.tmps[103]?.getD undef = .bool false := HF.at rfl; go_simp) ?_
    clear HF b
    intro b HF
    refine listO rfl HF rfl (by decide) ?_
    clear HF b
    intro b HF
    refine listF rfl HF rfl (by decide) (v := .bool false) (by have e104 : b.tmps[104]?.getD undef = .bool false := HF.at rfl; have e105 : b.tmps[105]?.getD undef = undef := HF.at rfl; go_simp) ?_
    clear HF b
    intro b HF
    show Code.wp _ _ _ _ _
    refine wp_cond_false (HF.get rfl) ?_
    refine wp_exit ?_
    show K _ _
    exact HKK.out x _ _ (HF.sub _ (List.forall_mem_cons.2 ⟨rfl, (List.forall_mem_cons.2 ⟨rfl, by intro p_ hp_; cases hp_⟩)⟩)) HM.out
set_option maxHeartbeats 2000000 in
set_option maxRecDepth 100000 in
theorem fewL9 {W : World} {m : S61} {ca : Array Value} {A : Option Addr} {a : Nat} (ga : k111.C W A m.f9.length m.f9) (ha : ca[9]? = some (.slice A m.f9.length a)) {K : Act → World → Prop} {R : Ending → World → Prop} {a1 : Act} {w1 : World} {x0 : Bool} (hF : Fr 156 a1 [(7, .int .i64 0), (3, .bool x0), (1, .pointer (some ⟨W.heap.size, 0, none⟩))]) (hm : Fw W w1 ca)
    (hK : ∀ x a' w', Fr 156 a' [(3, .bool x), (1, .pointer (some ⟨W.heap.size, 0, none⟩))] → Fw W w' ca → K a' w') : (blockOf Try.f15 6).wp Try.prog (Exit.then K (bodyPost Try.prog Try.f15 R)) a1 w1 := by
  have GA := Aside0.mk ga; have HA := Aside0.mk ha; have HKK := Aside0.mk hK
  clear ga ha hK
  refine wp_block ?_
  refine wp_loop_ghost (fun q_ b_ w_ => ∃ (k : Int) (x : Bool), 0 ≤ k ∧ (q_ : Int) + k = m.f9.length ∧ Fr 156 b_ [(7, .int .i64 k), (3, .bool x), (1, .pointer (some ⟨W.heap.size, 0, none⟩))] ∧ Fw W w_ ca) m.f9.length ⟨0, x0, Int.le_refl _, by omega, hF, hm⟩ ?_
  clear hF hm
  rintro q b wr ⟨k, x, hk0, hk1, HF, hm⟩
  have HM := Aside0.mk hm
  clear hm
  have XA := Aside0.mk (show wr.cell? ⟨W.heap.size, 9, none⟩ = some (.slice A m.f9.length a) from (HM.out.box.cell 9).trans HA.out)
  refine wp_seq ?_
  refine wp_seq ?_
  refine wp_region_lit ?_
  by_cases hlt : k < (m.f9.length : Int)
  · cases x
    case false =>
      have d0_ : decide (k < (m.f9.length : Int)) = true := decide_eq_true hlt
      refine listF rfl HF rfl (by decide) (v := .int .i64 k) (by have e7 : b.tmps[7]?.getD undef = .int .i64 k := HF.at rfl; go_simp) ?_
      clear HF b
      intro b HF
      refine listF rfl HF rfl (by decide) (v := .pointer (some ⟨W.heap.size, 9, none⟩)) (by have e1 : b.tmps[1]?.getD undef = .pointer (some ⟨W.heap.size, 0, none⟩) := HF.at rfl; go_simp) ?_
      clear HF b
      intro b HF
      refine listF rfl HF rfl (by decide) (v := .slice A m.f9.length a) (by have e128 : b.tmps[128]?.getD undef = .pointer (some ⟨W.heap.size, 9, none⟩) := HF.at rfl; have c_0 : wr.cell? ⟨W.heap.size, 9, none⟩ = some (.slice A m.f9.length a) := XA.out; go_simp) ?_
      clear HF b
      intro b HF
      refine listF rfl HF rfl (by decide) (v := .int .i64 (m.f9.length : Int)) (by have e129 : b.tmps[129]?.getD undef = .slice A m.f9.length a := HF.at rfl; go_simp) ?_
      clear HF b
      intro b HF
      refine listF rfl HF rfl (by decide) (v := .bool true) (by have e127 : b.tmps[127]?.getD undef = .int .i64 k := HF.at rfl; have e130 : b.tmps[130]?.getD undef = .int .i64 (m.f9.length : Int) := HF.at rfl; go_simp) ?_
      clear HF b
      intro b HF
      refine listF rfl HF rfl (by decide) (v := .bool true) (by have e131 : b.tmps[131]?.getD undef = .bool true := HF.at rfl; go_simp) ?_
      clear HF b
      intro b HF
      refine listF rfl HF rfl (by decide) (v := .bool false) (by have e3 : b.tmps[3]?.getD undef = .bool false := HF.at rfl; go_simp) ?_
      clear HF b
      intro b HF
      refine listF rfl HF rfl (by decide) (v := .bool false) (by have e132 : b.tmps[132]?.getD undef = .bool true := HF.at rfl; have e133 : b.tmps[133]?.getD undef = .bool false := HF.at rfl; go_simp) ?_
      clear HF b
      intro b HF
      show Code.wp _ _ _ _ _
      refine wp_cond_false (HF.get rfl) ?_
      refine wp_exit ?_
      show K _ _
      exact HKK.out false _ _ (HF.sub _ (List.forall_mem_cons.2 ⟨rfl, (List.forall_mem_cons.2 ⟨rfl, by intro p_ hp_; cases hp_⟩)⟩)) HM.out
    case true =>
      have d0_ : decide (k < (m.f9.length : Int)) = true := decide_eq_true hlt
      refine listF rfl HF rfl (by decide) (v := .int .i64 k) (by have e7 : b.tmps[7]?.getD undef = .int .i64 k := HF.at rfl; go_simp) ?_
      clear HF b
      intro b HF
      refine listF rfl HF rfl (by decide) (v := .pointer (some ⟨W.heap.size, 9, none⟩)) (by have e1 : b.tmps[1]?.getD undef = .pointer (some ⟨W.heap.size, 0, none⟩) := HF.at rfl; go_simp) ?_
      clear HF b
      intro b HF
      refine listF rfl HF rfl (by decide) (v := .slice A m.f9.length a) (by have e128 : b.tmps[128]?.getD undef = .pointer (some ⟨W.heap.size, 9, none⟩) := HF.at rfl; have c_0 : wr.cell? ⟨W.heap.size, 9, none⟩ = some (.slice A m.f9.length a) := XA.out; go_simp) ?_
      clear HF b
      intro b HF
      refine listF rfl HF rfl (by decide) (v := .int .i64 (m.f9.length : Int)) (by have e129 : b.tmps[129]?.getD undef = .slice A m.f9.length a := HF.at rfl; go_simp) ?_
      clear HF b
      intro b HF
      refine listF rfl HF rfl (by decide) (v := .bool true) (by have e127 : b.tmps[127]?.getD undef = .int .i64 k := HF.at rfl; have e130 : b.tmps[130]?.getD undef = .int .i64 (m.f9.length : Int) := HF.at rfl; go_simp) ?_
      clear HF b
      intro b HF
      refine listF rfl HF rfl (by decide) (v := .bool true) (by have e131 : b.tmps[131]?.getD undef = .bool true := HF.at rfl; go_simp) ?_
      clear HF b
      intro b HF
      refine listF rfl HF rfl (by decide) (v := .bool true) (by have e3 : b.tmps[3]?.getD undef = .bool true := HF.at rfl; go_simp) ?_
      clear HF b
      intro b HF
      refine listF rfl HF rfl (by decide) (v := .bool true) (by have e132 : b.tmps[132]?.getD undef = .bool true := HF.at rfl; have e133 : b.tmps[133]?.getD undef = .bool true := HF.at rfl; go_simp) ?_
      clear HF b
      intro b HF
      show Code.wp _ _ _ _ _
      refine wp_cond_true (HF.get rfl) ?_
      refine wp_skip ?_
      show Code.wp _ _ _ _ _
      refine wp_seq ?_
      refine wp_block ?_
      refine wp_region_lit ?_
      replace HF := HF.sub [(7, .int .i64 k), (3, .bool true), (1, .pointer (some ⟨W.heap.size, 0, none⟩))] (List.forall_mem_cons.2 ⟨rfl, (List.forall_mem_cons.2 ⟨rfl, (List.forall_mem_cons.2 ⟨rfl, by intro p_ hp_; cases hp_⟩)⟩)⟩)
      have ew : IntKind.i64.wrap (k + 1) = k + 1 := by have := Kd.C_max GA.out; rw [IntKind.wrap_i64]; omega
      obtain ⟨ad, Y5, y5, Y6, y6, Y7, y7, Y9, y9, eA, q0, q1, q2, q3, q4, q5, q6, q7, q8, q9, l5, g5, l6, g6, l7, g7, l9, g9⟩ := at_T111 GA.out k hk0 hlt
      cases eA
      generalize rd_T111 m.f9 k = y at *
      have HQ0 := Aside0.mk ((HM.out.low.cell (World.block_lt_of_cell? W _ q0)).trans q0); clear q0
      have HQ1 := Aside0.mk ((HM.out.low.cell (World.block_lt_of_cell? W _ q1)).trans q1); clear q1
      have HQ2 := Aside0.mk ((HM.out.low.cell (World.block_lt_of_cell? W _ q2)).trans q2); clear q2
      have HQ3 := Aside0.mk ((HM.out.low.cell (World.block_lt_of_cell? W _ q3)).trans q3); clear q3
      have HQ4 := Aside0.mk ((HM.out.low.cell (World.block_lt_of_cell? W _ q4)).trans q4); clear q4
      have HQ5 := Aside0.mk ((HM.out.low.cell (World.block_lt_of_cell? W _ q5)).trans q5); clear q5
      have HQ6 := Aside0.mk ((HM.out.low.cell (World.block_lt_of_cell? W _ q6)).trans q6); clear q6
      have HQ7 := Aside0.mk ((HM.out.low.cell (World.block_lt_of_cell? W _ q7)).trans q7); clear q7
      have HQ8 := Aside0.mk ((HM.out.low.cell (World.block_lt_of_cell? W _ q8)).trans q8); clear q8
      have HQ9 := Aside0.mk ((HM.out.low.cell (World.block_lt_of_cell? W _ q9)).trans q9); clear q9
      have Hl5 := Aside0.mk l5; clear l5
      have Hg5 := Aside0.mk g5; clear g5
      have Hl6 := Aside0.mk l6; clear l6
      have Hg6 := Aside0.mk g6; clear g6
      have Hl7 := Aside0.mk l7; clear l7
      have Hg7 := Aside0.mk g7; clear g7
      have Hl9 := Aside0.mk l9; clear l9
      have Hg9 := Aside0.mk g9; clear g9
      replace XA := Aside0.mk (show wr.cell? ⟨W.heap.size, 9, none⟩ = some (.slice (some ad) m.f9.length a) from XA.out)
      have d1_ : decide (0 ≤ k) = true := decide_eq_true hk0
      have d2_ : decide (k < (m.f9.length : Int)) = true := decide_eq_true hlt
      have dk0 : (0 : Int) ≤ k := hk0
      have dk1 : k < (m.f9.length : Int) := hlt
      refine listF rfl HF rfl (by decide) (v := .pointer (some ⟨W.heap.size, 9, none⟩)) (by have e1 : b.tmps[1]?.getD undef = .pointer (some ⟨W.heap.size, 0, none⟩) := HF.at rfl; go_simp) ?_
      clear HF b
      intro b HF
      refine listF rfl HF rfl (by decide) (v := .slice (some ad) m.f9.length a) (by have e137 : b.tmps[137]?.getD undef = .pointer (some ⟨W.heap.size, 9, none⟩) := HF.at rfl; have c_0 : wr.cell? ⟨W.heap.size, 9, none⟩ = some (.slice (some ad) m.f9.length a) := XA.out; go_simp) ?_
      clear HF b
      intro b HF
      refine listF rfl HF rfl (by decide) (v := .int .i64 k) (by have e7 : b.tmps[7]?.getD undef = .int .i64 k := HF.at rfl; go_simp) ?_
      clear HF b
      intro b HF
      refine listF rfl HF rfl (by decide) (v := .pointer (some (ad.add (k.toNat * 10)))) (by have e138 : b.tmps[138]?.getD undef = .slice (some ad) m.f9.length a := HF.at rfl; have e139 : b.tmps[139]?.getD undef = .int .i64 k := HF.at rfl; go_simp) ?_
      clear HF b
      intro b HF
      refine listF rfl HF rfl (by decide) (v := .pointer (some (ad.add (k.toNat * 10)))) (by have e140 : b.tmps[140]?.getD undef = .pointer (some (ad.add (k.toNat * 10))) := HF.at rfl; go_simp) ?_
      clear HF b
      intro b HF
      refine listF rfl HF rfl (by decide) (v := .agg #[.int .i64 y.f0.f0, .int .i64 y.f0.f1, .int .i64 y.f0.f2, .int .u64 y.f0.f3, .int .i64 y.f0.f4, .slice Y5 y.f0.f5.length y5, .slice Y6 y.f0.f6.length y6, .slice Y7 y.f0.f7.length y7, .bool y.f0.f8]) (by have e141 : b.tmps[141]?.getD undef = .pointer (some (ad.add (k.toNat * 10))) := HF.at rfl; have c_0 : wr.cell? (ad.add (k.toNat * 10)) = some (.int .i64 y.f0.f0) := HQ0.out; have c_1 : wr.cell? ⟨(ad.add (k.toNat * 10)).block, (ad.add (k.toNat * 10)).off + 1, none⟩ = some (.int .i64 y.f0.f1) := HQ1.out; have c_2 : wr.cell? ⟨(ad.add (k.toNat * 10)).block, (ad.add (k.toNat * 10)).off + 2, none⟩ = some (.int .i64 y.f0.f2) := HQ2.out; have c_3 : wr.cell? ⟨(ad.add (k.toNat * 10)).block, (ad.add (k.toNat * 10)).off + 3, none⟩ = some (.int .u64 y.f0.f3) := HQ3.out; have c_4 : wr.cell? ⟨(ad.add (k.toNat * 10)).block, (ad.add (k.toNat * 10)).off + 4, none⟩ = some (.int .i64 y.f0.f4) := HQ4.out; have c_5 : wr.cell? ⟨(ad.add (k.toNat * 10)).block, (ad.add (k.toNat * 10)).off + 5, none⟩ = some (.slice Y5 y.f0.f5.length y5) := HQ5.out; have c_6 : wr.cell? ⟨(ad.add (k.toNat * 10)).block, (ad.add (k.toNat * 10)).off + 6, none⟩ = some (.slice Y6 y.f0.f6.length y6) := HQ6.out; have c_7 : wr.cell? ⟨(ad.add (k.toNat * 10)).block, (ad.add (k.toNat * 10)).off + 7, none⟩ = some (.slice Y7 y.f0.f7.length y7) := HQ7.out; have c_8 : wr.cell? ⟨(ad.add (k.toNat * 10)).block, (ad.add (k.toNat * 10)).off + 8, none⟩ = some (.bool y.f0.f8) := HQ8.out; go_simp) ?_
      clear HF b
      intro b HF
      refine listC rfl HF rfl (by decide) (fun K_ hK_ => ?_)
      have e142 : b.tmps[142]?.getD undef = .agg #[.int .i64 y.f0.f0, .int .i64 y.f0.f1, .int .i64 y.f0.f2, .int .u64 y.f0.f3, .int .i64 y.f0.f4, .slice Y5 y.f0.f5.length y5, .slice Y6 y.f0.f6.length y6, .slice Y7 y.f0.f7.length y7, .bool y.f0.f8] := HF.at rfl
      go_simp
      clear e142
      refine (single_calls y.f0 Hl5.out (Kd.C_below Hg5.out HM.out.low) Hl6.out (Kd.C_below Hg6.out HM.out.low) Hl7.out (Kd.C_below Hg7.out HM.out.low)).mono ?_
      rintro e w106 ⟨g, rfl, hC, hb_⟩
      have HC := Aside0.mk hC
      have hx_ : Below wr.heap.size wr w106 := hb_
      replace HM := Aside0.mk (HM.out.step hb_)
      replace XA := Aside0.mk (pw_cell_below hb_ XA.out)
      replace HQ0 := Aside0.mk (pw_cell_below hb_ HQ0.out)
      replace HQ1 := Aside0.mk (pw_cell_below hb_ HQ1.out)
      replace HQ2 := Aside0.mk (pw_cell_below hb_ HQ2.out)
      replace HQ3 := Aside0.mk (pw_cell_below hb_ HQ3.out)
      replace HQ4 := Aside0.mk (pw_cell_below hb_ HQ4.out)
      replace HQ5 := Aside0.mk (pw_cell_below hb_ HQ5.out)
      replace HQ6 := Aside0.mk (pw_cell_below hb_ HQ6.out)
      replace HQ7 := Aside0.mk (pw_cell_below hb_ HQ7.out)
      replace HQ8 := Aside0.mk (pw_cell_below hb_ HQ8.out)
      replace HQ9 := Aside0.mk (pw_cell_below hb_ HQ9.out)
      clear hb_ hx_ hC
      refine hK_.out _ _ ?_
      clear hK_ K_ HF b
      intro b HF
      refine listC rfl HF rfl (by decide) (fun K_ hK_ => ?_)
      have e143 : b.tmps[143]?.getD undef = .slice (some ⟨g, 0, none⟩) 1 1 := HF.at rfl
      go_simp
      clear e143
      refine (few_calls HC.out (Nat.le_refl 1)).mono ?_
      rintro e w107 ⟨r, rfl, hb_⟩
      have hx_ : Below w106.heap.size w106 w107 := hb_
      replace HM := Aside0.mk (HM.out.step hb_)
      replace XA := Aside0.mk (pw_cell_below hb_ XA.out)
      replace HQ0 := Aside0.mk (pw_cell_below hb_ HQ0.out)
      replace HQ1 := Aside0.mk (pw_cell_below hb_ HQ1.out)
      replace HQ2 := Aside0.mk (pw_cell_below hb_ HQ2.out)
      replace HQ3 := Aside0.mk (pw_cell_below hb_ HQ3.out)
      replace HQ4 := Aside0.mk (pw_cell_below hb_ HQ4.out)
      replace HQ5 := Aside0.mk (pw_cell_below hb_ HQ5.out)
      replace HQ6 := Aside0.mk (pw_cell_below hb_ HQ6.out)
      replace HQ7 := Aside0.mk (pw_cell_below hb_ HQ7.out)
      replace HQ8 := Aside0.mk (pw_cell_below hb_ HQ8.out)
      replace HQ9 := Aside0.mk (pw_cell_below hb_ HQ9.out)
      clear hb_ hx_
      refine hK_.out _ _ ?_
      clear hK_ K_ HF b
      intro b HF
      cases r
      case false =>
        refine listF rfl HF rfl (by decide) (v := .bool false) (by have e144 : b.tmps[144]?.getD undef = .bool false := HF.at rfl; go_simp) ?_
        clear HF b
        intro b HF
        refine listO rfl HF rfl (by decide) ?_
        clear HF b
        intro b HF
        refine listO rfl HF rfl (by decide) ?_
        clear HF b
        intro b HF
        refine listO rfl HF rfl (by decide) ?_
        clear HF b
        intro b HF
        refine listO rfl HF rfl (by decide) ?_
        clear HF b
        intro b HF
        refine listO rfl HF rfl (by decide) ?_
        clear HF b
        intro b HF
        refine listO rfl HF rfl (by decide) ?_
        clear HF b
        intro b HF
        refine listO rfl HF rfl (by decide) ?_
        clear HF b
        intro b HF
        refine listO rfl HF rfl (by decide) ?_
        clear HF b
        intro b HF
        refine listF rfl HF rfl (by decide) (v := .bool false) (by have e145 : b.tmps[145]?.getD undef = .bool false := HF.at rfl; have e153 : b.tmps[153]?.getD undef = undef := HF.at rfl; go_simp) ?_
        clear HF b
        intro b HF
        refine listF rfl HF rfl (by decide) (v := .bool false) (by have e154 : b.tmps[154]?.getD undef = .bool false := HF.at rfl; go_simp) ?_
        clear HF b
        intro b HF
        show Code.wp _ _ _ _ _
        refine wp_region_lit ?_
        replace HF := HF.sub [(7, .int .i64 k), (3, .bool false), (1, .pointer (some ⟨W.heap.size, 0, none⟩))] (List.forall_mem_cons.2 ⟨rfl, (List.forall_mem_cons.2 ⟨rfl, (List.forall_mem_cons.2 ⟨rfl, by intro p_ hp_; cases hp_⟩)⟩)⟩)
        refine listF rfl HF rfl (by decide) (v := .int .i64 k) (by have e7 : b.tmps[7]?.getD undef = .int .i64 k := HF.at rfl; go_simp) ?_
        clear HF b
        intro b HF
        refine listF rfl HF rfl (by decide) (v := .int .i64 (k + 1)) (by have e135 : b.tmps[135]?.getD undef = .int .i64 k := HF.at rfl; go_simp) ?_
        clear HF b
        intro b HF
        refine listF rfl HF rfl (by decide) (v := .int .i64 (k + 1)) (by have e136 : b.tmps[136]?.getD undef = .int .i64 (k + 1) := HF.at rfl; go_simp) ?_
        clear HF b
        intro b HF
        exact ⟨(m.f9.length - (k + 1).toNat : Nat), by omega, k + 1, _, by omega, by omega, HF.sub _ (List.forall_mem_cons.2 ⟨rfl, (List.forall_mem_cons.2 ⟨rfl, (List.forall_mem_cons.2 ⟨rfl, by intro p_ hp_; cases hp_⟩)⟩)⟩), HM.out⟩
      case true =>
        refine listF rfl HF rfl (by decide) (v := .bool true) (by have e144 : b.tmps[144]?.getD undef = .bool true := HF.at rfl; go_simp) ?_
        clear HF b
        intro b HF
        refine listF rfl HF rfl (by decide) (v := .pointer (some ⟨W.heap.size, 9, none⟩)) (by have e1 : b.tmps[1]?.getD undef = .pointer (some ⟨W.heap.size, 0, none⟩) := HF.at rfl; go_simp) ?_
        clear HF b
        intro b HF
        refine listF rfl HF rfl (by decide) (v := .slice (some ad) m.f9.length a) (by have e146 : b.tmps[146]?.getD undef = .pointer (some ⟨W.heap.size, 9, none⟩) := HF.at rfl; have c_0 : w107.cell? ⟨W.heap.size, 9, none⟩ = some (.slice (some ad) m.f9.length a) := XA.out; go_simp) ?_
        clear HF b
        intro b HF
        refine listF rfl HF rfl (by decide) (v := .int .i64 k) (by have e7 : b.tmps[7]?.getD undef = .int .i64 k := HF.at rfl; go_simp) ?_
        clear HF b
        intro b HF
        refine listF rfl HF rfl (by decide) (v := .pointer (some (ad.add (k.toNat * 10)))) (by have e147 : b.tmps[147]?.getD undef = .slice (some ad) m.f9.length a := HF.at rfl; have e148 : b.tmps[148]?.getD undef = .int .i64 k := HF.at rfl; go_simp) ?_
        clear HF b
        intro b HF
        refine listF rfl HF rfl (by decide) (v := .pointer (some ⟨(ad.add (k.toNat * 10)).block, (ad.add (k.toNat * 10)).off + 9, none⟩)) (by have e149 : b.tmps[149]?.getD undef = .pointer (some (ad.add (k.toNat * 10))) := HF.at rfl; go_simp) ?_
        clear HF b
        intro b HF
        refine listF rfl HF rfl (by decide) (v := .slice Y9 y.f1.length y9) (by have e150 : b.tmps[150]?.getD undef = .pointer (some ⟨(ad.add (k.toNat * 10)).block, (ad.add (k.toNat * 10)).off + 9, none⟩) := HF.at rfl; have c_0 : w107.cell? ⟨(ad.add (k.toNat * 10)).block, (ad.add (k.toNat * 10)).off + 9, none⟩ = some (.slice Y9 y.f1.length y9) := HQ9.out; go_simp) ?_
        clear HF b
        intro b HF
        refine listF rfl HF rfl (by decide) (v := .int .i64 (y.f1.length : Int)) (by have e151 : b.tmps[151]?.getD undef = .slice Y9 y.f1.length y9 := HF.at rfl; go_simp) ?_
        clear HF b
        intro b HF
        refine listF rfl HF rfl (by decide) (v := .bool (decide ((y.f1.length : Int) ≤ 10000))) (by have e152 : b.tmps[152]?.getD undef = .int .i64 (y.f1.length : Int) := HF.at rfl; go_simp) ?_
        clear HF b
        intro b HF
        refine listF rfl HF rfl (by decide) (v := .bool (decide ((y.f1.length : Int) ≤ 10000))) (by have e145 : b.tmps[145]?.getD undef = .bool true := HF.at rfl; have e153 : b.tmps[153]?.getD undef = .bool (decide ((y.f1.length : Int) ≤ 10000)) := HF.at rfl; go_simp) ?_
        clear HF b
        intro b HF
        refine listF rfl HF rfl (by decide) (v := .bool (decide ((y.f1.length : Int) ≤ 10000))) (by have e154 : b.tmps[154]?.getD undef = .bool (decide ((y.f1.length : Int) ≤ 10000)) := HF.at rfl; go_simp) ?_
        clear HF b
        intro b HF
        show Code.wp _ _ _ _ _
        refine wp_region_lit ?_
        replace HF := HF.sub [(7, .int .i64 k), (3, .bool (decide ((y.f1.length : Int) ≤ 10000))), (1, .pointer (some ⟨W.heap.size, 0, none⟩))] (List.forall_mem_cons.2 ⟨rfl, (List.forall_mem_cons.2 ⟨rfl, (List.forall_mem_cons.2 ⟨rfl, by intro p_ hp_; cases hp_⟩)⟩)⟩)
        refine listF rfl HF rfl (by decide) (v := .int .i64 k) (by have e7 : b.tmps[7]?.getD undef = .int .i64 k := HF.at rfl; go_simp) ?_
        clear HF b
        intro b HF
        refine listF rfl HF rfl (by decide) (v := .int .i64 (k + 1)) (by have e135 : b.tmps[135]?.getD undef = .int .i64 k := HF.at rfl; go_simp) ?_
        clear HF b
        intro b HF
        refine listF rfl HF rfl (by decide) (v := .int .i64 (k + 1)) (by have e136 : b.tmps[136]?.getD undef = .int .i64 (k + 1) := HF.at rfl; go_simp) ?_
        clear HF b
        intro b HF
        exact ⟨(m.f9.length - (k + 1).toNat : Nat), by omega, k + 1, _, by omega, by omega, HF.sub _ (List.forall_mem_cons.2 ⟨rfl, (List.forall_mem_cons.2 ⟨rfl, (List.forall_mem_cons.2 ⟨rfl, by intro p_ hp_; cases hp_⟩)⟩)⟩), HM.out⟩
  · have d0_ : decide (k < (m.f9.length : Int)) = false := decide_eq_false hlt
    refine listF rfl HF rfl (by decide) (v := .int .i64 k) (by have e7 : b.tmps[7]?.getD undef = .int .i64 k := HF.at rfl; go_simp) ?_
    clear HF b
    intro b HF
    refine listF rfl HF rfl (by decide) (v := .pointer (some ⟨W.heap.size, 9, none⟩)) (by have e1 : b.tmps[1]?.getD undef = .pointer (some ⟨W.heap.size, 0, none⟩) := HF.at rfl; go_simp) ?_
    clear HF b
    intro b HF
    refine listF rfl HF rfl (by decide) (v := .slice A m.f9.length a) (by have e128 : b.tmps[128]?.getD undef = .pointer (some ⟨W.heap.size, 9, none⟩) := HF.at rfl; have c_0 : wr.cell? ⟨W.heap.size, 9, none⟩ = some (.slice A m.f9.length a) := XA.out; go_simp) ?_
    clear HF b
    intro b HF
    refine listF rfl HF rfl (by decide) (v := .int .i64 (m.f9.length : Int)) (by have e129 : b.tmps[129]?.getD undef = .slice A m.f9.length a := HF.at rfl; go_simp) ?_
    clear HF b
    intro b HF
    refine listF rfl HF rfl (by decide) (v := .bool false) (by have e127 : b.tmps[127]?.getD undef = .int .i64 k := HF.at rfl; have e130 : b.tmps[130]?.getD undef = .int .i64 (m.f9.length : Int) := HF.at rfl; go_simp) ?_
    clear HF b
    intro b HF
    refine listF rfl HF rfl (by decide) (v := .bool false) (by have e131 : b.tmps[131]?.getD undef = .bool false := HF.at rfl; go_simp) ?_
    clear HF b
    intro b HF
    refine listO rfl HF rfl (by decide) ?_
    clear HF b
    intro b HF
    refine listF rfl HF rfl (by decide) (v := .bool false) (by have e132 : b.tmps[132]?.getD undef = .bool false := HF.at rfl; have e133 : b.tmps[133]?.getD undef = undef := HF.at rfl; go_simp) ?_
    clear HF b
    intro b HF
    show Code.wp _ _ _ _ _
    refine wp_cond_false (HF.get rfl) ?_
    refine wp_exit ?_
    show K _ _
    exact HKK.out x _ _ (HF.sub _ (List.forall_mem_cons.2 ⟨rfl, (List.forall_mem_cons.2 ⟨rfl, by intro p_ hp_; cases hp_⟩)⟩)) HM.out
set_option maxHeartbeats 4000000 in
set_option maxRecDepth 100000 in
theorem Few_calls {W : World} {m : S61} {cs : List Value} (h : k61.K W m cs) : Calls Try.prog 15 #[.agg cs.toArray] W fun e w' => ∃ r : Bool, e = .returned (.bool r) ∧ Below W.heap.size W w' := by
  obtain ⟨A0, a0, A1, a1, A2, a2, A3, a3, A4, a4, A5, a5, A6, a6, A8, a8, A9, a9, A10, a10, rfl, l0, g0, l1, g1, l2, g2, l3, g3, l4, g4, l5, g5, l6, g6, l8, g8, l9, g9, l10, g10⟩ := k61_open h
  have G2 := Aside0.mk g2; have G5 := Aside0.mk g5; have G8 := Aside0.mk g8; have G9 := Aside0.mk g9
  clear h l0 g0 l1 g1 l2 g2 l3 g3 l4 g4 l5 g5 l6 g6 l8 g8 l9 g9 l10 g10
  obtain ⟨w1, hw1⟩ : ∃ w1, w1 = W.alloc (.cells #[.slice A0 m.f0.length a0, .slice A1 m.f1.length a1, .slice A2 m.f2.length a2, .slice A3 m.f3.length a3, .slice A4 m.f4.length a4, .slice A5 m.f5.length a5, .slice A6 m.f6.length a6, .int .i64 m.f7, .slice A8 m.f8.length a8, .slice A9 m.f9.length a9, .slice A10 m.f10.length a10] 61) := ⟨_, rfl⟩
  have HM := Aside0.mk (show Fw W w1 #[.slice A0 m.f0.length a0, .slice A1 m.f1.length a1, .slice A2 m.f2.length a2, .slice A3 m.f3.length a3, .slice A4 m.f4.length a4, .slice A5 m.f5.length a5, .slice A6 m.f6.length a6, .int .i64 m.f7, .slice A8 m.f8.length a8, .slice A9 m.f9.length a9, .slice A10 m.f10.length a10] by rw [hw1]; exact ⟨St.Row.made _ _ _ rfl, below_alloc (Below.refl _ _) _⟩)
  have HW := Aside0.mk hw1
  clear hw1
  refine enterF1 Try.func15 rfl Try.ntmps15 (by decide) ?_
  intro b HF
  refine wp_seq ?_
  refine wp_region_lit ?_
  refine listM rfl HF rfl (by decide) (v := .pointer (some ⟨W.heap.size, 0, none⟩)) (w1 := w1) (by have e0 : b.tmps[0]?.getD undef = .agg #[.slice A0 m.f0.length a0, .slice A1 m.f1.length a1, .slice A2 m.f2.length a2, .slice A3 m.f3.length a3, .slice A4 m.f4.length a4, .slice A5 m.f5.length a5, .slice A6 m.f6.length a6, .int .i64 m.f7, .slice A8 m.f8.length a8, .slice A9 m.f9.length a9, .slice A10 m.f10.length a10] := HF.at rfl; rw [HW.out]; go_simp) ?_
  clear HF b
  intro b HF
  refine listF rfl HF rfl (by decide) (v := .bool false) (by go_simp) ?_
  clear HF b
  intro b HF
  show Code.wp _ _ _ _ _
  refine wp_seq ?_
  replace HF := HF.sub [(1, .pointer (some ⟨W.heap.size, 0, none⟩))] (List.forall_mem_cons.2 ⟨rfl, by intro p_ hp_; cases hp_⟩)
  clear HW
  refine cutW (A := fun a_ w_ => w_ = w1 ∧ ∃ x : Bool, Fr 156 a_ [(3, .bool x), (1, .pointer (some ⟨W.heap.size, 0, none⟩))]) ?_ ?_
  · refine wp_region_lit ?_
    refine listF rfl HF rfl (by decide) (v := .pointer (some ⟨W.heap.size, 0, none⟩)) (by have e1 : b.tmps[1]?.getD undef = .pointer (some ⟨W.heap.size, 0, none⟩) := HF.at rfl; go_simp) ?_
    clear HF b
    intro b HF
    refine listF rfl HF rfl (by decide) (v := .slice A0 m.f0.length a0) (by have e8 : b.tmps[8]?.getD undef = .pointer (some ⟨W.heap.size, 0, none⟩) := HF.at rfl; have c_0 : w1.cell? ⟨W.heap.size, 0, none⟩ = some (.slice A0 m.f0.length a0) := HM.out.box.cell 0; go_simp) ?_
    clear HF b
    intro b HF
    refine listF rfl HF rfl (by decide) (v := .int .i64 (m.f0.length : Int)) (by have e9 : b.tmps[9]?.getD undef = .slice A0 m.f0.length a0 := HF.at rfl; go_simp) ?_
    clear HF b
    intro b HF
    by_cases c0 : (m.f0.length : Int) ≤ 200
    case neg =>
      have d_ : decide ((m.f0.length : Int) ≤ 200) = false := decide_eq_false c0
      refine listF rfl HF rfl (by decide) (v := .bool false) (by have e10 : b.tmps[10]?.getD undef = .int .i64 (m.f0.length : Int) := HF.at rfl; go_simp) ?_
      clear HF b
      intro b HF
      refine listF rfl HF rfl (by decide) (v := .bool false) (by have e11 : b.tmps[11]?.getD undef = .bool false := HF.at rfl; go_simp) ?_
      clear HF b
      intro b HF
      refine listO rfl HF rfl (by decide) ?_
      clear HF b
      intro b HF
      refine listO rfl HF rfl (by decide) ?_
      clear HF b
      intro b HF
      refine listO rfl HF rfl (by decide) ?_
      clear HF b
      intro b HF
      refine listO rfl HF rfl (by decide) ?_
      clear HF b
      intro b HF
      refine listF rfl HF rfl (by decide) (v := .bool false) (by have e12 : b.tmps[12]?.getD undef = .bool false := HF.at rfl; have e16 : b.tmps[16]?.getD undef = undef := HF.at rfl; go_simp) ?_
      clear HF b
      intro b HF
      refine listF rfl HF rfl (by decide) (v := .bool false) (by have e17 : b.tmps[17]?.getD undef = .bool false := HF.at rfl; go_simp) ?_
      clear HF b
      intro b HF
      refine listO rfl HF rfl (by decide) ?_
      clear HF b
      intro b HF
      refine listO rfl HF rfl (by decide) ?_
      clear HF b
      intro b HF
      refine listO rfl HF rfl (by decide) ?_
      clear HF b
      intro b HF
      refine listO rfl HF rfl (by decide) ?_
      clear HF b
      intro b HF
      refine listF rfl HF rfl (by decide) (v := .bool false) (by have e18 : b.tmps[18]?.getD undef = .bool false := HF.at rfl; have e22 : b.tmps[22]?.getD undef = undef := HF.at rfl; go_simp) ?_
      clear HF b
      intro b HF
      refine listF rfl HF rfl (by decide) (v := .bool false) (by have e23 : b.tmps[23]?.getD undef = .bool false := HF.at rfl; go_simp) ?_
      clear HF b
      intro b HF
      refine listO rfl HF rfl (by decide) ?_
      clear HF b
      intro b HF
      refine listO rfl HF rfl (by decide) ?_
      clear HF b
      intro b HF
      refine listO rfl HF rfl (by decide) ?_
      clear HF b
      intro b HF
      refine listO rfl HF rfl (by decide) ?_
      clear HF b
      intro b HF
      refine listF rfl HF rfl (by decide) (v := .bool false) (by have e24 : b.tmps[24]?.getD undef = .bool false := HF.at rfl; have e28 : b.tmps[28]?.getD undef = undef := HF.at rfl; go_simp) ?_
      clear HF b
      intro b HF
      refine listF rfl HF rfl (by decide) (v := .bool false) (by have e29 : b.tmps[29]?.getD undef = .bool false := HF.at rfl; go_simp) ?_
      clear HF b
      intro b HF
      refine listO rfl HF rfl (by decide) ?_
      clear HF b
      intro b HF
      refine listO rfl HF rfl (by decide) ?_
      clear HF b
      intro b HF
      refine listO rfl HF rfl (by decide) ?_
      clear HF b
      intro b HF
      refine listO rfl HF rfl (by decide) ?_
      clear HF b
      intro b HF
      refine listF rfl HF rfl (by decide) (v := .bool false) (by have e30 : b.tmps[30]?.getD undef = .bool false := HF.at rfl; have e34 : b.tmps[34]?.getD undef = undef := HF.at rfl; go_simp) ?_
      clear HF b
      intro b HF
      refine listF rfl HF rfl (by decide) (v := .bool false) (by have e35 : b.tmps[35]?.getD undef = .bool false := HF.at rfl; go_simp) ?_
      clear HF b
      intro b HF
      refine listO rfl HF rfl (by decide) ?_
      clear HF b
      intro b HF
      refine listO rfl HF rfl (by decide) ?_
      clear HF b
      intro b HF
      refine listO rfl HF rfl (by decide) ?_
      clear HF b
      intro b HF
      refine listO rfl HF rfl (by decide) ?_
      clear HF b
      intro b HF
      refine listF rfl HF rfl (by decide) (v := .bool false) (by have e36 : b.tmps[36]?.getD undef = .bool false := HF.at rfl; have e40 : b.tmps[40]?.getD undef = undef := HF.at rfl; go_simp) ?_
      clear HF b
      intro b HF
      refine listF rfl HF rfl (by decide) (v := .bool false) (by have e41 : b.tmps[41]?.getD undef = .bool false := HF.at rfl; go_simp) ?_
      clear HF b
      intro b HF
      refine listO rfl HF rfl (by decide) ?_
      clear HF b
      intro b HF
      refine listO rfl HF rfl (by decide) ?_
      clear HF b
      intro b HF
      refine listO rfl HF rfl (by decide) ?_
      clear HF b
      intro b HF
      refine listO rfl HF rfl (by decide) ?_
      clear HF b
      intro b HF
      refine listF rfl HF rfl (by decide) (v := .bool false) (by have e42 : b.tmps[42]?.getD undef = .bool false := HF.at rfl; have e46 : b.tmps[46]?.getD undef = undef := HF.at rfl; go_simp) ?_
      clear HF b
      intro b HF
      refine listF rfl HF rfl (by decide) (v := .bool false) (by have e47 : b.tmps[47]?.getD undef = .bool false := HF.at rfl; go_simp) ?_
      clear HF b
      intro b HF
      refine listO rfl HF rfl (by decide) ?_
      clear HF b
      intro b HF
      refine listO rfl HF rfl (by decide) ?_
      clear HF b
      intro b HF
      refine listO rfl HF rfl (by decide) ?_
      clear HF b
      intro b HF
      refine listO rfl HF rfl (by decide) ?_
      clear HF b
      intro b HF
      refine listF rfl HF rfl (by decide) (v := .bool false) (by have e48 : b.tmps[48]?.getD undef = .bool false := HF.at rfl; have e52 : b.tmps[52]?.getD undef = undef := HF.at rfl; go_simp) ?_
      clear HF b
      intro b HF
      refine listF rfl HF rfl (by decide) (v := .bool false) (by have e53 : b.tmps[53]?.getD undef = .bool false := HF.at rfl; go_simp) ?_
      clear HF b
      intro b HF
      exact ⟨rfl, false, HF.sub _ (List.forall_mem_cons.2 ⟨rfl, (List.forall_mem_cons.2 ⟨rfl, by intro p_ hp_; cases hp_⟩)⟩)⟩
    case pos =>
      have d0_ : decide ((m.f0.length : Int) ≤ 200) = true := decide_eq_true c0
      refine listF rfl HF rfl (by decide) (v := .bool true) (by have e10 : b.tmps[10]?.getD undef = .int .i64 (m.f0.length : Int) := HF.at rfl; go_simp) ?_
      clear HF b
      intro b HF
      refine listF rfl HF rfl (by decide) (v := .bool true) (by have e11 : b.tmps[11]?.getD undef = .bool true := HF.at rfl; go_simp) ?_
      clear HF b
      intro b HF
      refine listF rfl HF rfl (by decide) (v := .pointer (some ⟨W.heap.size, 1, none⟩)) (by have e1 : b.tmps[1]?.getD undef = .pointer (some ⟨W.heap.size, 0, none⟩) := HF.at rfl; go_simp) ?_
      clear HF b
      intro b HF
      refine listF rfl HF rfl (by decide) (v := .slice A1 m.f1.length a1) (by have e13 : b.tmps[13]?.getD undef = .pointer (some ⟨W.heap.size, 1, none⟩) := HF.at rfl; have c_0 : w1.cell? ⟨W.heap.size, 1, none⟩ = some (.slice A1 m.f1.length a1) := HM.out.box.cell 1; go_simp) ?_
      clear HF b
      intro b HF
      refine listF rfl HF rfl (by decide) (v := .int .i64 (m.f1.length : Int)) (by have e14 : b.tmps[14]?.getD undef = .slice A1 m.f1.length a1 := HF.at rfl; go_simp) ?_
      clear HF b
      intro b HF
      by_cases c1 : (m.f1.length : Int) ≤ 200
      case neg =>
        have d_ : decide ((m.f1.length : Int) ≤ 200) = false := decide_eq_false c1
        refine listF rfl HF rfl (by decide) (v := .bool false) (by have e15 : b.tmps[15]?.getD undef = .int .i64 (m.f1.length : Int) := HF.at rfl; go_simp) ?_
        clear HF b
        intro b HF
        refine listF rfl HF rfl (by decide) (v := .bool false) (by have e12 : b.tmps[12]?.getD undef = .bool true := HF.at rfl; have e16 : b.tmps[16]?.getD undef = .bool false := HF.at rfl; go_simp) ?_
        clear HF b
        intro b HF
        refine listF rfl HF rfl (by decide) (v := .bool false) (by have e17 : b.tmps[17]?.getD undef = .bool false := HF.at rfl; go_simp) ?_
        clear HF b
        intro b HF
        refine listO rfl HF rfl (by decide) ?_
        clear HF b
        intro b HF
        refine listO rfl HF rfl (by decide) ?_
        clear HF b
        intro b HF
        refine listO rfl HF rfl (by decide) ?_
        clear HF b
        intro b HF
        refine listO rfl HF rfl (by decide) ?_
        clear HF b
        intro b HF
        refine listF rfl HF rfl (by decide) (v := .bool false) (by have e18 : b.tmps[18]?.getD undef = .bool false := HF.at rfl; have e22 : b.tmps[22]?.getD undef = undef := HF.at rfl; go_simp) ?_
        clear HF b
        intro b HF
        refine listF rfl HF rfl (by decide) (v := .bool false) (by have e23 : b.tmps[23]?.getD undef = .bool false := HF.at rfl; go_simp) ?_
        clear HF b
        intro b HF
        refine listO rfl HF rfl (by decide) ?_
        clear HF b
        intro b HF
        refine listO rfl HF rfl (by decide) ?_
        clear HF b
        intro b HF
        refine listO rfl HF rfl (by decide) ?_
        clear HF b
        intro b HF
        refine listO rfl HF rfl (by decide) ?_
        clear HF b
        intro b HF
        refine listF rfl HF rfl (by decide) (v := .bool false) (by have e24 : b.tmps[24]?.getD undef = .bool false := HF.at rfl; have e28 : b.tmps[28]?.getD undef = undef := HF.at rfl; go_simp) ?_
        clear HF b
        intro b HF
        refine listF rfl HF rfl (by decide) (v := .bool false) (by have e29 : b.tmps[29]?.getD undef = .bool false := HF.at rfl; go_simp) ?_
        clear HF b
        intro b HF
        refine listO rfl HF rfl (by decide) ?_
        clear HF b
        intro b HF
        refine listO rfl HF rfl (by decide) ?_
        clear HF b
        intro b HF
        refine listO rfl HF rfl (by decide) ?_
        clear HF b
        intro b HF
        refine listO rfl HF rfl (by decide) ?_
        clear HF b
        intro b HF
        refine listF rfl HF rfl (by decide) (v := .bool false) (by have e30 : b.tmps[30]?.getD undef = .bool false := HF.at rfl; have e34 : b.tmps[34]?.getD undef = undef := HF.at rfl; go_simp) ?_
        clear HF b
        intro b HF
        refine listF rfl HF rfl (by decide) (v := .bool false) (by have e35 : b.tmps[35]?.getD undef = .bool false := HF.at rfl; go_simp) ?_
        clear HF b
        intro b HF
        refine listO rfl HF rfl (by decide) ?_
        clear HF b
        intro b HF
        refine listO rfl HF rfl (by decide) ?_
        clear HF b
        intro b HF
        refine listO rfl HF rfl (by decide) ?_
        clear HF b
        intro b HF
        refine listO rfl HF rfl (by decide) ?_
        clear HF b
        intro b HF
        refine listF rfl HF rfl (by decide) (v := .bool false) (by have e36 : b.tmps[36]?.getD undef = .bool false := HF.at rfl; have e40 : b.tmps[40]?.getD undef = undef := HF.at rfl; go_simp) ?_
        clear HF b
        intro b HF
        refine listF rfl HF rfl (by decide) (v := .bool false) (by have e41 : b.tmps[41]?.getD undef = .bool false := HF.at rfl; go_simp) ?_
        clear HF b
        intro b HF
        refine listO rfl HF rfl (by decide) ?_
        clear HF b
        intro b HF
        refine listO rfl HF rfl (by decide) ?_
        clear HF b
        intro b HF
        refine listO rfl HF rfl (by decide) ?_
        clear HF b
        intro b HF
        refine listO rfl HF rfl (by decide) ?_
        clear HF b
        intro b HF
        refine listF rfl HF rfl (by decide) (v := .bool false) (by have e42 : b.tmps[42]?.getD undef = .bool false := HF.at rfl; have e46 : b.tmps[46]?.getD undef = undef := HF.at rfl; go_simp) ?_
        clear HF b
        intro b HF
        refine listF rfl HF rfl (by decide) (v := .bool false) (by have e47 : b.tmps[47]?.getD undef = .bool false := HF.at rfl; go_simp) ?_
        clear HF b
        intro b HF
        refine listO rfl HF rfl (by decide) ?_
        clear HF b
        intro b HF
        refine listO rfl HF rfl (by decide) ?_
        clear HF b
        intro b HF
        refine listO rfl HF rfl (by decide) ?_
        clear HF b
        intro b HF
        refine listO rfl HF rfl (by decide) ?_
        clear HF b
        intro b HF
        refine listF rfl HF rfl (by decide) (v := .bool false) (by have e48 : b.tmps[48]?.getD undef = .bool false := HF.at rfl; have e52 : b.tmps[52]?.getD undef = undef := HF.at rfl; go_simp) ?_
        clear HF b
        intro b HF
        refine listF rfl HF rfl (by decide) (v := .bool false) (by have e53 : b.tmps[53]?.getD undef = .bool false := HF.at rfl; go_simp) ?_
        clear HF b
        intro b HF
        exact ⟨rfl, false, HF.sub _ (List.forall_mem_cons.2 ⟨rfl, (List.forall_mem_cons.2 ⟨rfl, by intro p_ hp_; cases hp_⟩)⟩)⟩
      case pos =>
        have d1_ : decide ((m.f1.length : Int) ≤ 200) = true := decide_eq_true c1
        refine listF rfl HF rfl (by decide) (v := .bool true) (by have e15 : b.tmps[15]?.getD undef = .int .i64 (m.f1.length : Int) := HF.at rfl; go_simp) ?_
        clear HF b
        intro b HF
        refine listF rfl HF rfl (by decide) (v := .bool true) (by have e12 : b.tmps[12]?.getD undef = .bool true := HF.at rfl; have e16 : b.tmps[16]?.getD undef = .bool true := HF.at rfl; go_simp) ?_
        clear HF b
        intro b HF
        refine listF rfl HF rfl (by decide) (v := .bool true) (by have e17 : b.tmps[17]?.getD undef = .bool true := HF.at rfl; go_simp) ?_
        clear HF b
        intro b HF
        refine listF rfl HF rfl (by decide) (v := .pointer (some ⟨W.heap.size, 2, none⟩)) (by have e1 : b.tmps[1]?.getD undef = .pointer (some ⟨W.heap.size, 0, none⟩) := HF.at rfl; go_simp) ?_
        clear HF b
        intro b HF
        refine listF rfl HF rfl (by decide) (v := .slice A2 m.f2.length a2) (by have e19 : b.tmps[19]?.getD undef = .pointer (some ⟨W.heap.size, 2, none⟩) := HF.at rfl; have c_0 : w1.cell? ⟨W.heap.size, 2, none⟩ = some (.slice A2 m.f2.length a2) := HM.out.box.cell 2; go_simp) ?_
        clear HF b
        intro b HF
        refine listF rfl HF rfl (by decide) (v := .int .i64 (m.f2.length : Int)) (by have e20 : b.tmps[20]?.getD undef = .slice A2 m.f2.length a2 := HF.at rfl; go_simp) ?_
        clear HF b
        intro b HF
        by_cases c2 : (m.f2.length : Int) ≤ 200
        case neg =>
          have d_ : decide ((m.f2.length : Int) ≤ 200) = false := decide_eq_false c2
          refine listF rfl HF rfl (by decide) (v := .bool false) (by have e21 : b.tmps[21]?.getD undef = .int .i64 (m.f2.length : Int) := HF.at rfl; go_simp) ?_
          clear HF b
          intro b HF
          refine listF rfl HF rfl (by decide) (v := .bool false) (by have e18 : b.tmps[18]?.getD undef = .bool true := HF.at rfl; have e22 : b.tmps[22]?.getD undef = .bool false := HF.at rfl; go_simp) ?_
          clear HF b
          intro b HF
          refine listF rfl HF rfl (by decide) (v := .bool false) (by have e23 : b.tmps[23]?.getD undef = .bool false := HF.at rfl; go_simp) ?_
          clear HF b
          intro b HF
          refine listO rfl HF rfl (by decide) ?_
          clear HF b
          intro b HF
          refine listO rfl HF rfl (by decide) ?_
          clear HF b
          intro b HF
          refine listO rfl HF rfl (by decide) ?_
          clear HF b
          intro b HF
          refine listO rfl HF rfl (by decide) ?_
          clear HF b
          intro b HF
          refine listF rfl HF rfl (by decide) (v := .bool false) (by have e24 : b.tmps[24]?.getD undef = .bool false := HF.at rfl; have e28 : b.tmps[28]?.getD undef = undef := HF.at rfl; go_simp) ?_
          clear HF b
          intro b HF
          refine listF rfl HF rfl (by decide) (v := .bool false) (by have e29 : b.tmps[29]?.getD undef = .bool false := HF.at rfl; go_simp) ?_
          clear HF b
          intro b HF
          refine listO rfl HF rfl (by decide) ?_
          clear HF b
          intro b HF
          refine listO rfl HF rfl (by decide) ?_
          clear HF b
          intro b HF
          refine listO rfl HF rfl (by decide) ?_
          clear HF b
          intro b HF
          refine listO rfl HF rfl (by decide) ?_
          clear HF b
          intro b HF
          refine listF rfl HF rfl (by decide) (v := .bool false) (by have e30 : b.tmps[30]?.getD undef = .bool false := HF.at rfl; have e34 : b.tmps[34]?.getD undef = undef := HF.at rfl; go_simp) ?_
          clear HF b
          intro b HF
          refine listF rfl HF rfl (by decide) (v := .bool false) (by have e35 : b.tmps[35]?.getD undef = .bool false := HF.at rfl; go_simp) ?_
          clear HF b
          intro b HF
          refine listO rfl HF rfl (by decide) ?_
          clear HF b
          intro b HF
          refine listO rfl HF rfl (by decide) ?_
          clear HF b
          intro b HF
          refine listO rfl HF rfl (by decide) ?_
          clear HF b
          intro b HF
          refine listO rfl HF rfl (by decide) ?_
          clear HF b
          intro b HF
          refine listF rfl HF rfl (by decide) (v := .bool false) (by have e36 : b.tmps[36]?.getD undef = .bool false := HF.at rfl; have e40 : b.tmps[40]?.getD undef = undef := HF.at rfl; go_simp) ?_
          clear HF b
          intro b HF
          refine listF rfl HF rfl (by decide) (v := .bool false) (by have e41 : b.tmps[41]?.getD undef = .bool false := HF.at rfl; go_simp) ?_
          clear HF b
          intro b HF
          refine listO rfl HF rfl (by decide) ?_
          clear HF b
          intro b HF
          refine listO rfl HF rfl (by decide) ?_
          clear HF b
          intro b HF
          refine listO rfl HF rfl (by decide) ?_
          clear HF b
          intro b HF
          refine listO rfl HF rfl (by decide) ?_
          clear HF b
          intro b HF
          refine listF rfl HF rfl (by decide) (v := .bool false) (by have e42 : b.tmps[42]?.getD undef = .bool false := HF.at rfl; have e46 : b.tmps[46]?.getD undef = undef := HF.at rfl; go_simp) ?_
          clear HF b
          intro b HF
          refine listF rfl HF rfl (by decide) (v := .bool false) (by have e47 : b.tmps[47]?.getD undef = .bool false := HF.at rfl; go_simp) ?_
          clear HF b
          intro b HF
          refine listO rfl HF rfl (by decide) ?_
          clear HF b
          intro b HF
          refine listO rfl HF rfl (by decide) ?_
          clear HF b
          intro b HF
          refine listO rfl HF rfl (by decide) ?_
          clear HF b
          intro b HF
          refine listO rfl HF rfl (by decide) ?_
          clear HF b
          intro b HF
          refine listF rfl HF rfl (by decide) (v := .bool false) (by have e48 : b.tmps[48]?.getD undef = .bool false := HF.at rfl; have e52 : b.tmps[52]?.getD undef = undef := HF.at rfl; go_simp) ?_
          clear HF b
          intro b HF
          refine listF rfl HF rfl (by decide) (v := .bool false) (by have e53 : b.tmps[53]?.getD undef = .bool false := HF.at rfl; go_simp) ?_
          clear HF b
          intro b HF
          exact ⟨rfl, false, HF.sub _ (List.forall_mem_cons.2 ⟨rfl, (List.forall_mem_cons.2 ⟨rfl, by intro p_ hp_; cases hp_⟩)⟩)⟩
        case pos =>
          have d2_ : decide ((m.f2.length : Int) ≤ 200) = true := decide_eq_true c2
          refine listF rfl HF rfl (by decide) (v := .bool true) (by have e21 : b.tmps[21]?.getD undef = .int .i64 (m.f2.length : Int) := HF.at rfl; go_simp) ?_
          clear HF b
          intro b HF
          refine listF rfl HF rfl (by decide) (v := .bool true) (by have e18 : b.tmps[18]?.getD undef = .bool true := HF.at rfl; have e22 : b.tmps[22]?.getD undef = .bool true := HF.at rfl; go_simp) ?_
          clear HF b
          intro b HF
          refine listF rfl HF rfl (by decide) (v := .bool true) (by have e23 : b.tmps[23]?.getD undef = .bool true := HF.at rfl; go_simp) ?_
          clear HF b
          intro b HF
          refine listF rfl HF rfl (by decide) (v := .pointer (some ⟨W.heap.size, 5, none⟩)) (by have e1 : b.tmps[1]?.getD undef = .pointer (some ⟨W.heap.size, 0, none⟩) := HF.at rfl; go_simp) ?_
          clear HF b
          intro b HF
          refine listF rfl HF rfl (by decide) (v := .slice A5 m.f5.length a5) (by have e25 : b.tmps[25]?.getD undef = .pointer (some ⟨W.heap.size, 5, none⟩) := HF.at rfl; have c_0 : w1.cell? ⟨W.heap.size, 5, none⟩ = some (.slice A5 m.f5.length a5) := HM.out.box.cell 5; go_simp) ?_
          clear HF b
          intro b HF
          refine listF rfl HF rfl (by decide) (v := .int .i64 (m.f5.length : Int)) (by have e26 : b.tmps[26]?.getD undef = .slice A5 m.f5.length a5 := HF.at rfl; go_simp) ?_
          clear HF b
          intro b HF
          by_cases c3 : (m.f5.length : Int) ≤ 200
          case neg =>
            have d_ : decide ((m.f5.length : Int) ≤ 200) = false := decide_eq_false c3
            refine listF rfl HF rfl (by decide) (v := .bool false) (by have e27 : b.tmps[27]?.getD undef = .int .i64 (m.f5.length : Int) := HF.at rfl; go_simp) ?_
            clear HF b
            intro b HF
            refine listF rfl HF rfl (by decide) (v := .bool false) (by have e24 : b.tmps[24]?.getD undef = .bool true := HF.at rfl; have e28 : b.tmps[28]?.getD undef = .bool false := HF.at rfl; go_simp) ?_
            clear HF b
            intro b HF
            refine listF rfl HF rfl (by decide) (v := .bool false) (by have e29 : b.tmps[29]?.getD undef = .bool false := HF.at rfl; go_simp) ?_
            clear HF b
            intro b HF
            refine listO rfl HF rfl (by decide) ?_
            clear HF b
            intro b HF
            refine listO rfl HF rfl (by decide) ?_
            clear HF b
            intro b HF
            refine listO rfl HF rfl (by decide) ?_
            clear HF b
            intro b HF
            refine listO rfl HF rfl (by decide) ?_
            clear HF b
            intro b HF
            refine listF rfl HF rfl (by decide) (v := .bool false) (by have e30 : b.tmps[30]?.getD undef = .bool false := HF.at rfl; have e34 : b.tmps[34]?.getD undef = undef := HF.at rfl; go_simp) ?_
            clear HF b
            intro b HF
            refine listF rfl HF rfl (by decide) (v := .bool false) (by have e35 : b.tmps[35]?.getD undef = .bool false := HF.at rfl; go_simp) ?_
            clear HF b
            intro b HF
            refine listO rfl HF rfl (by decide) ?_
            clear HF b
            intro b HF
            refine listO rfl HF rfl (by decide) ?_
            clear HF b
            intro b HF
            refine listO rfl HF rfl (by decide) ?_
            clear HF b
            intro b HF
            refine listO rfl HF rfl (by decide) ?_
            clear HF b
            intro b HF
            refine listF rfl HF rfl (by decide) (v := .bool false) (by have e36 : b.tmps[36]?.getD undef = .bool false := HF.at rfl; have e40 : b.tmps[40]?.getD undef = undef := HF.at rfl; go_simp) ?_
            clear HF b
            intro b HF
            refine listF rfl HF rfl (by decide) (v := .bool false) (by have e41 : b.tmps[41]?.getD undef = .bool false := HF.at rfl; go_simp) ?_
            clear HF b
            intro b HF
            refine listO rfl HF rfl (by decide) ?_
            clear HF b
            intro b HF
            refine listO rfl HF rfl (by decide) ?_
            clear HF b
            intro b HF
            refine listO rfl HF rfl (by decide) ?_
            clear HF b
            intro b HF
            refine listO rfl HF rfl (by decide) ?_
            clear HF b
            intro b HF
            refine listF rfl HF rfl (by decide) (v := .bool false) (by have e42 : b.tmps[42]?.getD undef = .bool false := HF.at rfl; have e46 : b.tmps[46]?.getD undef = undef := HF.at rfl; go_simp) ?_
            clear HF b
            intro b HF
            refine listF rfl HF rfl (by decide) (v := .bool false) (by have e47 : b.tmps[47]?.getD undef = .bool false := HF.at rfl; go_simp) ?_
            clear HF b
            intro b HF
            refine listO rfl HF rfl (by decide) ?_
            clear HF b
            intro b HF
            refine listO rfl HF rfl (by decide) ?_
            clear HF b
            intro b HF
            refine listO rfl HF rfl (by decide) ?_
            clear HF b
            intro b HF
            refine listO rfl HF rfl (by decide) ?_
            clear HF b
            intro b HF
            refine listF rfl HF rfl (by decide) (v := .bool false) (by have e48 : b.tmps[48]?.getD undef = .bool false := HF.at rfl; have e52 : b.tmps[52]?.getD undef = undef := HF.at rfl; go_simp) ?_
            clear HF b
            intro b HF
            refine listF rfl HF rfl (by decide) (v := .bool false) (by have e53 : b.tmps[53]?.getD undef = .bool false := HF.at rfl; go_simp) ?_
            clear HF b
            intro b HF
            exact ⟨rfl, false, HF.sub _ (List.forall_mem_cons.2 ⟨rfl, (List.forall_mem_cons.2 ⟨rfl, by intro p_ hp_; cases hp_⟩)⟩)⟩
          case pos =>
            have d3_ : decide ((m.f5.length : Int) ≤ 200) = true := decide_eq_true c3
            refine listF rfl HF rfl (by decide) (v := .bool true) (by have e27 : b.tmps[27]?.getD undef = .int .i64 (m.f5.length : Int) := HF.at rfl; go_simp) ?_
            clear HF b
            intro b HF
            refine listF rfl HF rfl (by decide) (v := .bool true) (by have e24 : b.tmps[24]?.getD undef = .bool true := HF.at rfl; have e28 : b.tmps[28]?.getD undef = .bool true := HF.at rfl; go_simp) ?_
            clear HF b
            intro b HF
            refine listF rfl HF rfl (by decide) (v := .bool true) (by have e29 : b.tmps[29]?.getD undef = .bool true := HF.at rfl; go_simp) ?_
            clear HF b
            intro b HF
            refine listF rfl HF rfl (by decide) (v := .pointer (some ⟨W.heap.size, 6, none⟩)) (by have e1 : b.tmps[1]?.getD undef = .pointer (some ⟨W.heap.size, 0, none⟩) := HF.at rfl; go_simp) ?_
            clear HF b
            intro b HF
            refine listF rfl HF rfl (by decide) (v := .slice A6 m.f6.length a6) (by have e31 : b.tmps[31]?.getD undef = .pointer (some ⟨W.heap.size, 6, none⟩) := HF.at rfl; have c_0 : w1.cell? ⟨W.heap.size, 6, none⟩ = some (.slice A6 m.f6.length a6) := HM.out.box.cell 6; go_simp) ?_
            clear HF b
            intro b HF
            refine listF rfl HF rfl (by decide) (v := .int .i64 (m.f6.length : Int)) (by have e32 : b.tmps[32]?.getD undef = .slice A6 m.f6.length a6 := HF.at rfl; go_simp) ?_
            clear HF b
            intro b HF
            by_cases c4 : (m.f6.length : Int) ≤ 200
            case neg =>
              have d_ : decide ((m.f6.length : Int) ≤ 200) = false := decide_eq_false c4
              refine listF rfl HF rfl (by decide) (v := .bool false) (by have e33 : b.tmps[33]?.getD undef = .int .i64 (m.f6.length : Int) := HF.at rfl; go_simp) ?_
              clear HF b
              intro b HF
              refine listF rfl HF rfl (by decide) (v := .bool false) (by have e30 : b.tmps[30]?.getD undef = .bool true := HF.at rfl; have e34 : b.tmps[34]?.getD undef = .bool false := HF.at rfl; go_simp) ?_
              clear HF b
              intro b HF
              refine listF rfl HF rfl (by decide) (v := .bool false) (by have e35 : b.tmps[35]?.getD undef = .bool false := HF.at rfl; go_simp) ?_
              clear HF b
              intro b HF
              refine listO rfl HF rfl (by decide) ?_
              clear HF b
              intro b HF
              refine listO rfl HF rfl (by decide) ?_
              clear HF b
              intro b HF
              refine listO rfl HF rfl (by decide) ?_
              clear HF b
              intro b HF
              refine listO rfl HF rfl (by decide) ?_
              clear HF b
              intro b HF
              refine listF rfl HF rfl (by decide) (v := .bool false) (by have e36 : b.tmps[36]?.getD undef = .bool false := HF.at rfl; have e40 : b.tmps[40]?.getD undef = undef := HF.at rfl; go_simp) ?_
              clear HF b
              intro b HF
              refine listF rfl HF rfl (by decide) (v := .bool false) (by have e41 : b.tmps[41]?.getD undef = .bool false := HF.at rfl; go_simp) ?_
              clear HF b
              intro b HF
              refine listO rfl HF rfl (by decide) ?_
              clear HF b
              intro b HF
              refine listO rfl HF rfl (by decide) ?_
              clear HF b
              intro b HF
              refine listO rfl HF rfl (by decide) ?_
              clear HF b
              intro b HF
              refine listO rfl HF rfl (by decide) ?_
              clear HF b
              intro b HF
              refine listF rfl HF rfl (by decide) (v := .bool false) (by have e42 : b.tmps[42]?.getD undef = .bool false := HF.at rfl; have e46 : b.tmps[46]?.getD undef = undef := HF.at rfl; go_simp) ?_
              clear HF b
              intro b HF
              refine listF rfl HF rfl (by decide) (v := .bool false) (by have e47 : b.tmps[47]?.getD undef = .bool false := HF.at rfl; go_simp) ?_
              clear HF b
              intro b HF
              refine listO rfl HF rfl (by decide) ?_
              clear HF b
              intro b HF
              refine listO rfl HF rfl (by decide) ?_
              clear HF b
              intro b HF
              refine listO rfl HF rfl (by decide) ?_
              clear HF b
              intro b HF
              refine listO rfl HF rfl (by decide) ?_
              clear HF b
              intro b HF
              refine listF rfl HF rfl (by decide) (v := .bool false) (by have e48 : b.tmps[48]?.getD undef = .bool false := HF.at rfl; have e52 : b.tmps[52]?.getD undef = undef := HF.at rfl; go_simp) ?_
              clear HF b
              intro b HF
              refine listF rfl HF rfl (by decide) (v := .bool false) (by have e53 : b.tmps[53]?.getD undef = .bool false := HF.at rfl; go_simp) ?_
              clear HF b
              intro b HF
              exact ⟨rfl, false, HF.sub _ (List.forall_mem_cons.2 ⟨rfl, (List.forall_mem_cons.2 ⟨rfl, by intro p_ hp_; cases hp_⟩)⟩)⟩
            case pos =>
              have d4_ : decide ((m.f6.length : Int) ≤ 200) = true := decide_eq_true c4
              refine listF rfl HF rfl (by decide) (v := .bool true) (by have e33 : b.tmps[33]?.getD undef = .int .i64 (m.f6.length : Int) := HF.at rfl; go_simp) ?_
              clear HF b
              intro b HF
              refine listF rfl HF rfl (by decide) (v := .bool true) (by have e30 : b.tmps[30]?.getD undef = .bool true := HF.at rfl; have e34 : b.tmps[34]?.getD undef = .bool true := HF.at rfl; go_simp) ?_
              clear HF b
              intro b HF
              refine listF rfl HF rfl (by decide) (v := .bool true) (by have e35 : b.tmps[35]?.getD undef = .bool true := HF.at rfl; go_simp) ?_
              clear HF b
              intro b HF
              refine listF rfl HF rfl (by decide) (v := .pointer (some ⟨W.heap.size, 8, none⟩)) (by have e1 : b.tmps[1]?.getD undef = .pointer (some ⟨W.heap.size, 0, none⟩) := HF.at rfl; go_simp) ?_
              clear HF b
              intro b HF
              refine listF rfl HF rfl (by decide) (v := .slice A8 m.f8.length a8) (by have e37 : b.tmps[37]?.getD undef = .pointer (some ⟨W.heap.size, 8, none⟩) := HF.at rfl; have c_0 : w1.cell? ⟨W.heap.size, 8, none⟩ = some (.slice A8 m.f8.length a8) := HM.out.box.cell 8; go_simp) ?_
              clear HF b
              intro b HF
              refine listF rfl HF rfl (by decide) (v := .int .i64 (m.f8.length : Int)) (by have e38 : b.tmps[38]?.getD undef = .slice A8 m.f8.length a8 := HF.at rfl; go_simp) ?_
              clear HF b
              intro b HF
              by_cases c5 : (m.f8.length : Int) ≤ 200
              case neg =>
                have d_ : decide ((m.f8.length : Int) ≤ 200) = false := decide_eq_false c5
                refine listF rfl HF rfl (by decide) (v := .bool false) (by have e39 : b.tmps[39]?.getD undef = .int .i64 (m.f8.length : Int) := HF.at rfl; go_simp) ?_
                clear HF b
                intro b HF
                refine listF rfl HF rfl (by decide) (v := .bool false) (by have e36 : b.tmps[36]?.getD undef = .bool true := HF.at rfl; have e40 : b.tmps[40]?.getD undef = .bool false := HF.at rfl; go_simp) ?_
                clear HF b
                intro b HF
                refine listF rfl HF rfl (by decide) (v := .bool false) (by have e41 : b.tmps[41]?.getD undef = .bool false := HF.at rfl; go_simp) ?_
                clear HF b
                intro b HF
                refine listO rfl HF rfl (by decide) ?_
                clear HF b
                intro b HF
                refine listO rfl HF rfl (by decide) ?_
                clear HF b
                intro b HF
                refine listO rfl HF rfl (by decide) ?_
                clear HF b
                intro b HF
                refine listO rfl HF rfl (by decide) ?_
                clear HF b
                intro b HF
                refine listF rfl HF rfl (by decide) (v := .bool false) (by have e42 : b.tmps[42]?.getD undef = .bool false := HF.at rfl; have e46 : b.tmps[46]?.getD undef = undef := HF.at rfl; go_simp) ?_
                clear HF b
                intro b HF
                refine listF rfl HF rfl (by decide) (v := .bool false) (by have e47 : b.tmps[47]?.getD undef = .bool false := HF.at rfl; go_simp) ?_
                clear HF b
                intro b HF
                refine listO rfl HF rfl (by decide) ?_
                clear HF b
                intro b HF
                refine listO rfl HF rfl (by decide) ?_
                clear HF b
                intro b HF
                refine listO rfl HF rfl (by decide) ?_
                clear HF b
                intro b HF
                refine listO rfl HF rfl (by decide) ?_
                clear HF b
                intro b HF
                refine listF rfl HF rfl (by decide) (v := .bool false) (by have e48 : b.tmps[48]?.getD undef = .bool false := HF.at rfl; have e52 : b.tmps[52]?.getD undef = undef := HF.at rfl; go_simp) ?_
                clear HF b
                intro b HF
                refine listF rfl HF rfl (by decide) (v := .bool false) (by have e53 : b.tmps[53]?.getD undef = .bool false := HF.at rfl; go_simp) ?_
                clear HF b
                intro b HF
                exact ⟨rfl, false, HF.sub _ (List.forall_mem_cons.2 ⟨rfl, (List.forall_mem_cons.2 ⟨rfl, by intro p_ hp_; cases hp_⟩)⟩)⟩
              case pos =>
                have d5_ : decide ((m.f8.length : Int) ≤ 200) = true := decide_eq_true c5
                refine listF rfl HF rfl (by decide) (v := .bool true) (by have e39 : b.tmps[39]?.getD undef = .int .i64 (m.f8.length : Int) := HF.at rfl; go_simp) ?_
                clear HF b
                intro b HF
                refine listF rfl HF rfl (by decide) (v := .bool true) (by have e36 : b.tmps[36]?.getD undef = .bool true := HF.at rfl; have e40 : b.tmps[40]?.getD undef = .bool true := HF.at rfl; go_simp) ?_
                clear HF b
                intro b HF
                refine listF rfl HF rfl (by decide) (v := .bool true) (by have e41 : b.tmps[41]?.getD undef = .bool true := HF.at rfl; go_simp) ?_
                clear HF b
                intro b HF
                refine listF rfl HF rfl (by decide) (v := .pointer (some ⟨W.heap.size, 9, none⟩)) (by have e1 : b.tmps[1]?.getD undef = .pointer (some ⟨W.heap.size, 0, none⟩) := HF.at rfl; go_simp) ?_
                clear HF b
                intro b HF
                refine listF rfl HF rfl (by decide) (v := .slice A9 m.f9.length a9) (by have e43 : b.tmps[43]?.getD undef = .pointer (some ⟨W.heap.size, 9, none⟩) := HF.at rfl; have c_0 : w1.cell? ⟨W.heap.size, 9, none⟩ = some (.slice A9 m.f9.length a9) := HM.out.box.cell 9; go_simp) ?_
                clear HF b
                intro b HF
                refine listF rfl HF rfl (by decide) (v := .int .i64 (m.f9.length : Int)) (by have e44 : b.tmps[44]?.getD undef = .slice A9 m.f9.length a9 := HF.at rfl; go_simp) ?_
                clear HF b
                intro b HF
                by_cases c6 : (m.f9.length : Int) ≤ 200
                case neg =>
                  have d_ : decide ((m.f9.length : Int) ≤ 200) = false := decide_eq_false c6
                  refine listF rfl HF rfl (by decide) (v := .bool false) (by have e45 : b.tmps[45]?.getD undef = .int .i64 (m.f9.length : Int) := HF.at rfl; go_simp) ?_
                  clear HF b
                  intro b HF
                  refine listF rfl HF rfl (by decide) (v := .bool false) (by have e42 : b.tmps[42]?.getD undef = .bool true := HF.at rfl; have e46 : b.tmps[46]?.getD undef = .bool false := HF.at rfl; go_simp) ?_
                  clear HF b
                  intro b HF
                  refine listF rfl HF rfl (by decide) (v := .bool false) (by have e47 : b.tmps[47]?.getD undef = .bool false := HF.at rfl; go_simp) ?_
                  clear HF b
                  intro b HF
                  refine listO rfl HF rfl (by decide) ?_
                  clear HF b
                  intro b HF
                  refine listO rfl HF rfl (by decide) ?_
                  clear HF b
                  intro b HF
                  refine listO rfl HF rfl (by decide) ?_
                  clear HF b
                  intro b HF
                  refine listO rfl HF rfl (by decide) ?_
                  clear HF b
                  intro b HF
                  refine listF rfl HF rfl (by decide) (v := .bool false) (by have e48 : b.tmps[48]?.getD undef = .bool false := HF.at rfl; have e52 : b.tmps[52]?.getD undef = undef := HF.at rfl; go_simp) ?_
                  clear HF b
                  intro b HF
                  refine listF rfl HF rfl (by decide) (v := .bool false) (by have e53 : b.tmps[53]?.getD undef = .bool false := HF.at rfl; go_simp) ?_
                  clear HF b
                  intro b HF
                  exact ⟨rfl, false, HF.sub _ (List.forall_mem_cons.2 ⟨rfl, (List.forall_mem_cons.2 ⟨rfl, by intro p_ hp_; cases hp_⟩)⟩)⟩
                case pos =>
                  have d6_ : decide ((m.f9.length : Int) ≤ 200) = true := decide_eq_true c6
                  refine listF rfl HF rfl (by decide) (v := .bool true) (by have e45 : b.tmps[45]?.getD undef = .int .i64 (m.f9.length : Int) := HF.at rfl; go_simp) ?_
                  clear HF b
                  intro b HF
                  refine listF rfl HF rfl (by decide) (v := .bool true) (by have e42 : b.tmps[42]?.getD undef = .bool true := HF.at rfl; have e46 : b.tmps[46]?.getD undef = .bool true := HF.at rfl; go_simp) ?_
                  clear HF b
                  intro b HF
                  refine listF rfl HF rfl (by decide) (v := .bool true) (by have e47 : b.tmps[47]?.getD undef = .bool true := HF.at rfl; go_simp) ?_
                  clear HF b
                  intro b HF
                  refine listF rfl HF rfl (by decide) (v := .pointer (some ⟨W.heap.size, 10, none⟩)) (by have e1 : b.tmps[1]?.getD undef = .pointer (some ⟨W.heap.size, 0, none⟩) := HF.at rfl; go_simp) ?_
                  clear HF b
                  intro b HF
                  refine listF rfl HF rfl (by decide) (v := .slice A10 m.f10.length a10) (by have e49 : b.tmps[49]?.getD undef = .pointer (some ⟨W.heap.size, 10, none⟩) := HF.at rfl; have c_0 : w1.cell? ⟨W.heap.size, 10, none⟩ = some (.slice A10 m.f10.length a10) := HM.out.box.cell 10; go_simp) ?_
                  clear HF b
                  intro b HF
                  refine listF rfl HF rfl (by decide) (v := .int .i64 (m.f10.length : Int)) (by have e50 : b.tmps[50]?.getD undef = .slice A10 m.f10.length a10 := HF.at rfl; go_simp) ?_
                  clear HF b
                  intro b HF
                  by_cases c7 : (m.f10.length : Int) ≤ 200
                  case neg =>
                    have d_ : decide ((m.f10.length : Int) ≤ 200) = false := decide_eq_false c7
                    refine listF rfl HF rfl (by decide) (v := .bool false) (by have e51 : b.tmps[51]?.getD undef = .int .i64 (m.f10.length : Int) := HF.at rfl; go_simp) ?_
                    clear HF b
                    intro b HF
                    refine listF rfl HF rfl (by decide) (v := .bool false) (by have e48 : b.tmps[48]?.getD undef = .bool true := HF.at rfl; have e52 : b.tmps[52]?.getD undef = .bool false := HF.at rfl; go_simp) ?_
                    clear HF b
                    intro b HF
                    refine listF rfl HF rfl (by decide) (v := .bool false) (by have e53 : b.tmps[53]?.getD undef = .bool false := HF.at rfl; go_simp) ?_
                    clear HF b
                    intro b HF
                    exact ⟨rfl, false, HF.sub _ (List.forall_mem_cons.2 ⟨rfl, (List.forall_mem_cons.2 ⟨rfl, by intro p_ hp_; cases hp_⟩)⟩)⟩
                  case pos =>
                    have d7_ : decide ((m.f10.length : Int) ≤ 200) = true := decide_eq_true c7
                    refine listF rfl HF rfl (by decide) (v := .bool true) (by have e51 : b.tmps[51]?.getD undef = .int .i64 (m.f10.length : Int) := HF.at rfl; go_simp) ?_
                    clear HF b
                    intro b HF
                    refine listF rfl HF rfl (by decide) (v := .bool true) (by have e48 : b.tmps[48]?.getD undef = .bool true := HF.at rfl; have e52 : b.tmps[52]?.getD undef = .bool true := HF.at rfl; go_simp) ?_
                    clear HF b
                    intro b HF
                    refine listF rfl HF rfl (by decide) (v := .bool true) (by have e53 : b.tmps[53]?.getD undef = .bool true := HF.at rfl; go_simp) ?_
                    clear HF b
                    intro b HF
                    exact ⟨rfl, true, HF.sub _ (List.forall_mem_cons.2 ⟨rfl, (List.forall_mem_cons.2 ⟨rfl, by intro p_ hp_; cases hp_⟩)⟩)⟩
  · rintro a_ w_ ⟨rfl, x, hf⟩
    clear HF b
    obtain ⟨b, HF, hb_⟩ : ∃ b, Fr 156 b [(3, .bool x), (1, .pointer (some ⟨W.heap.size, 0, none⟩))] ∧ b = a_ := ⟨a_, hf, rfl⟩
    subst hb_
    clear hf
    show Code.wp _ _ _ _ _
    refine wp_seq ?_
    refine wp_seq ?_
    refine wp_region_lit ?_
    refine listF rfl HF rfl (by decide) (v := .int .i64 0) (by go_simp) ?_
    clear HF b
    intro b HF
    show Code.wp _ _ _ _ _
    refine fewL2 G2.out rfl HF HM.out ?_
    clear HF HM b x
    intro x b w22 HF hm
    have HM := Aside0.mk hm
    clear hm
    show Code.wp _ _ _ _ _
    refine wp_seq ?_
    refine wp_seq ?_
    refine wp_region_lit ?_
    refine listF rfl HF rfl (by decide) (v := .int .i64 0) (by go_simp) ?_
    clear HF b
    intro b HF
    show Code.wp _ _ _ _ _
    refine fewL5 G5.out rfl HF HM.out ?_
    clear HF HM b x
    intro x b w25 HF hm
    have HM := Aside0.mk hm
    clear hm
    show Code.wp _ _ _ _ _
    refine wp_seq ?_
    refine wp_seq ?_
    refine wp_region_lit ?_
    refine listF rfl HF rfl (by decide) (v := .int .i64 0) (by go_simp) ?_
    clear HF b
    intro b HF
    show Code.wp _ _ _ _ _
    refine fewL8 G8.out rfl HF HM.out ?_
    clear HF HM b x
    intro x b w28 HF hm
    have HM := Aside0.mk hm
    clear hm
    show Code.wp _ _ _ _ _
    refine wp_seq ?_
    refine wp_seq ?_
    refine wp_region_lit ?_
    refine listF rfl HF rfl (by decide) (v := .int .i64 0) (by go_simp) ?_
    clear HF b
    intro b HF
    show Code.wp _ _ _ _ _
    refine fewL9 G9.out rfl HF HM.out ?_
    clear HF HM b x
    intro x b w29 HF hm
    have HM := Aside0.mk hm
    clear hm
    show Code.wp _ _ _ _ _
    refine wp_seq ?_
    refine wp_region_lit ?_
    refine listF rfl HF rfl (by decide) (v := .bool x) (by have e3 : b.tmps[3]?.getD undef = .bool x := HF.at rfl; go_simp) ?_
    clear HF b
    intro b HF
    refine listF rfl HF rfl (by decide) (v := .bool x) (by have e155 : b.tmps[155]?.getD undef = .bool x := HF.at rfl; go_simp) ?_
    clear HF b
    intro b HF
    show Code.wp _ _ _ _ _
    refine wp_ret ?_
    exact bodyPost_ret (results_tmp rfl _ _ _) HF.none ⟨x, congrArg Ending.returned (HF.get (k := 2) rfl), HM.out.low⟩
end Go.Proofs.Ytbelijoggbblgaa.Ex
