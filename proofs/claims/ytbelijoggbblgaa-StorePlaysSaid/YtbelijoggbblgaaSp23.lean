import Derived.Test.YtbelijoggbblgaaSp22
import Derived.Test.YtbelijoggbblgaaSp21
import Derived.Test.YtbelijoggbblgaaSp19
import Derived.Test.YtbelijoggbblgaaSp18
import Derived.Test.YtbelijoggbblgaaSp17
import Derived.Test.YtbelijoggbblgaaSp15
import Derived.Test.YtbelijoggbblgaaSp14
namespace Go.Proofs.Ytbelijoggbblgaa.Sp
open Go.RowKit Go.Proofs.YtbelijoggbblgaaW.PrintWords Go.Proofs.YtbelijoggbblgaaW.PrintLast Go.Proofs.YtbelijoggbblgaaW.PrintMore Go.Proofs.Ytbelijoggbblgaa.PStorePlays Go.Proofs.Ytbelijoggbblgaa.St
set_option linter.unusedVariables false
set_option linter.unusedSimpArgs false
theorem ODone.from {w w1 w2 W0 : World} {base s m : Nat} {F : List S32} {L : List (List Int × Int)} {N : List (Nat × Int)} {G : List S41} (h : ODone w1 w2 W0 base s m F L N G) (hb : Below W0.heap.size w w1) : ODone w w2 W0 base s m F L N G := ⟨h.1, hb.trans h.2⟩
set_option maxHeartbeats 4000000 in
set_option maxRecDepth 100000 in
theorem one_adds1 {w W0 : World} {base s m : Nat} {F : List S32} {L : List (List Int × Int)} {N : List (Nat × Int)} {G : List S41} (hW : W0.heap.size ≤ w.heap.size)
    (what n1 at_ : Int) {P : Option Addr} {cp : Nat} {R : Option Addr} {cr : Nat} {np nr : Nat} (inst fn ans lo hi : Int) (has : Bool) (ty : Int) (mu : Bool) (v : Int)
    (hp : grommetlaw16_pick.f what 6 = some 1) (hA : ∀ W : World, Below w.heap.size w W → Calls Try.prog 34 #[.pointer (some ⟨s, 0, none⟩), .pointer (some ⟨m, 0, none⟩), .agg (D14 what n1 at_ P np cp R nr cr inst fn ans lo hi has ty mu v)] W fun e w' => e = .returned (.bool true) ∧ ODone W w' W0 base s m F L N G) :
    Calls Try.prog 20 #[.pointer (some ⟨s, 0, none⟩), .pointer (some ⟨m, 0, none⟩), .agg (D14 what n1 at_ P np cp R nr cr inst fn ans lo hi has ty mu v)] w fun e w' => e = .returned (.bool true) ∧ ODone w w' W0 base s m F L N G := by
  have CP := Aside0.mk (fun W : World => grommetlaw16_pick.calls what 6 1 W hp)
  have HA := Aside0.mk hA
  clear hp hA
  go_enter Try.func20, Try.ntmps20
  go_upto_region 7 with (go_at_call 10; (refine (CP.out _).mono ?_); rintro e w1 ⟨rfl, ⟨nd, rfl⟩⟩)
  obtain ⟨w2, hw2⟩ : ∃ w2, w2 = ((w.alloc (Obj.cells (D14 what n1 at_ P np cp R nr cr inst fn ans lo hi has ty mu v) 43)).drewN nd) := ⟨_, rfl⟩
  have r0 : Row w2 w.heap.size 43 (D14 what n1 at_ P np cp R nr cr inst fn ans lo hi has ty mu v) := by rw [hw2]; exact Row.drewN (Row.made w _ _ rfl) nd
  have hB2 : Below w.heap.size w w2 := by rw [hw2]; exact pw_below_drewN (below_alloc (Below.refl _ _) _) _
  rw [← hw2]
  clear hw2 CP
  have b0 : w2.cell? ⟨w.heap.size, 0, none⟩ = some (.int .i64 what) := r0.cell 0
  have b1 : w2.cell? ⟨w.heap.size, 1, none⟩ = some (.int .i64 n1) := r0.cell 1
  have b2 : w2.cell? ⟨w.heap.size, 2, none⟩ = some (.int .i64 at_) := r0.cell 2
  have b3 : w2.cell? ⟨w.heap.size, 3, none⟩ = some (.slice P np cp) := r0.cell 3
  have b4 : w2.cell? ⟨w.heap.size, 4, none⟩ = some (.slice R nr cr) := r0.cell 4
  have b5 : w2.cell? ⟨w.heap.size, 5, none⟩ = some (.int .i64 inst) := r0.cell 5
  have b6 : w2.cell? ⟨w.heap.size, 6, none⟩ = some (.int .i64 fn) := r0.cell 6
  have b7 : w2.cell? ⟨w.heap.size, 7, none⟩ = some (.int .u64 ans) := r0.cell 7
  have b8 : w2.cell? ⟨w.heap.size, 8, none⟩ = some (.int .i64 lo) := r0.cell 8
  have b9 : w2.cell? ⟨w.heap.size, 9, none⟩ = some (.int .i64 hi) := r0.cell 9
  have b10 : w2.cell? ⟨w.heap.size, 10, none⟩ = some (.bool has) := r0.cell 10
  have b11 : w2.cell? ⟨w.heap.size, 11, none⟩ = some (.int .i64 ty) := r0.cell 11
  have b12 : w2.cell? ⟨w.heap.size, 12, none⟩ = some (.bool mu) := r0.cell 12
  have b13 : w2.cell? ⟨w.heap.size, 13, none⟩ = some (.int .u64 v) := r0.cell 13
  have HB2 := Aside0.mk hB2
  clear hB2 r0
  go_wp2_with (go_at_call 34; (refine (HA.out _ HB2.out).mono ?_); rintro e w3 ⟨rfl, hD3⟩; have HD3 := Aside0.mk hD3; clear hD3)
  go_ret
  exact ⟨rfl, HD3.out.from (below_mono HB2.out hW)⟩
set_option maxHeartbeats 4000000 in
set_option maxRecDepth 100000 in
theorem one_adds2 {w W0 : World} {base s m : Nat} {F : List S32} {L : List (List Int × Int)} {N : List (Nat × Int)} {G : List S41} (hW : W0.heap.size ≤ w.heap.size)
    (what n1 at_ : Int) {P : Option Addr} {cp : Nat} {R : Option Addr} {cr : Nat} {np nr : Nat} (inst fn ans lo hi : Int) (has : Bool) (ty : Int) (mu : Bool) (v : Int)
    (hp : grommetlaw16_pick.f what 6 = some 2) (hA : ∀ W : World, Below w.heap.size w W → Calls Try.prog 34 #[.pointer (some ⟨s, 0, none⟩), .pointer (some ⟨m, 0, none⟩), .agg (D14 what n1 at_ P np cp R nr cr inst fn ans lo hi has ty mu v)] W fun e w' => e = .returned (.bool true) ∧ ODone W w' W0 base s m F L N G) :
    Calls Try.prog 20 #[.pointer (some ⟨s, 0, none⟩), .pointer (some ⟨m, 0, none⟩), .agg (D14 what n1 at_ P np cp R nr cr inst fn ans lo hi has ty mu v)] w fun e w' => e = .returned (.bool true) ∧ ODone w w' W0 base s m F L N G := by
  have CP := Aside0.mk (fun W : World => grommetlaw16_pick.calls what 6 2 W hp)
  have HA := Aside0.mk hA
  clear hp hA
  go_enter Try.func20, Try.ntmps20
  go_upto_region 7 with (go_at_call 10; (refine (CP.out _).mono ?_); rintro e w1 ⟨rfl, ⟨nd, rfl⟩⟩)
  obtain ⟨w2, hw2⟩ : ∃ w2, w2 = ((w.alloc (Obj.cells (D14 what n1 at_ P np cp R nr cr inst fn ans lo hi has ty mu v) 43)).drewN nd) := ⟨_, rfl⟩
  have r0 : Row w2 w.heap.size 43 (D14 what n1 at_ P np cp R nr cr inst fn ans lo hi has ty mu v) := by rw [hw2]; exact Row.drewN (Row.made w _ _ rfl) nd
  have hB2 : Below w.heap.size w w2 := by rw [hw2]; exact pw_below_drewN (below_alloc (Below.refl _ _) _) _
  rw [← hw2]
  clear hw2 CP
  have b0 : w2.cell? ⟨w.heap.size, 0, none⟩ = some (.int .i64 what) := r0.cell 0
  have b1 : w2.cell? ⟨w.heap.size, 1, none⟩ = some (.int .i64 n1) := r0.cell 1
  have b2 : w2.cell? ⟨w.heap.size, 2, none⟩ = some (.int .i64 at_) := r0.cell 2
  have b3 : w2.cell? ⟨w.heap.size, 3, none⟩ = some (.slice P np cp) := r0.cell 3
  have b4 : w2.cell? ⟨w.heap.size, 4, none⟩ = some (.slice R nr cr) := r0.cell 4
  have b5 : w2.cell? ⟨w.heap.size, 5, none⟩ = some (.int .i64 inst) := r0.cell 5
  have b6 : w2.cell? ⟨w.heap.size, 6, none⟩ = some (.int .i64 fn) := r0.cell 6
  have b7 : w2.cell? ⟨w.heap.size, 7, none⟩ = some (.int .u64 ans) := r0.cell 7
  have b8 : w2.cell? ⟨w.heap.size, 8, none⟩ = some (.int .i64 lo) := r0.cell 8
  have b9 : w2.cell? ⟨w.heap.size, 9, none⟩ = some (.int .i64 hi) := r0.cell 9
  have b10 : w2.cell? ⟨w.heap.size, 10, none⟩ = some (.bool has) := r0.cell 10
  have b11 : w2.cell? ⟨w.heap.size, 11, none⟩ = some (.int .i64 ty) := r0.cell 11
  have b12 : w2.cell? ⟨w.heap.size, 12, none⟩ = some (.bool mu) := r0.cell 12
  have b13 : w2.cell? ⟨w.heap.size, 13, none⟩ = some (.int .u64 v) := r0.cell 13
  have HB2 := Aside0.mk hB2
  clear hB2 r0
  go_wp2_with (go_at_call 34; (refine (HA.out _ HB2.out).mono ?_); rintro e w3 ⟨rfl, hD3⟩; have HD3 := Aside0.mk hD3; clear hD3)
  go_ret
  exact ⟨rfl, HD3.out.from (below_mono HB2.out hW)⟩
theorem pick_six (c : Int) (c0 : -9223372036854775808 ≤ c) (c1 : c < 9223372036854775808) : ∃ r, grommetlaw16_pick.f c 6 = some r ∧ (r = 0 ∨ r = 1 ∨ r = 2 ∨ r = 3 ∨ r = 4 ∨ r = 5) := by
  unfold grommetlaw16_pick.f
  by_cases h : c < 0
  · rw [if_pos h, if_neg (by omega)]
    have e : wrap64 (-(wrap64 (c + 1))) = -(c + 1) := by unfold wrap64; omega
    rw [e]
    refine ⟨_, rfl, ?_⟩
    rw [Int.tmod_eq_emod_of_nonneg (by omega)]
    omega
  · rw [if_neg h, if_neg (by omega)]
    refine ⟨_, rfl, ?_⟩
    rw [Int.tmod_eq_emod_of_nonneg (by omega)]
    omega
/-- One deed. -/
theorem one_any {w W0 : World} {base s m : Nat} {F : List S32} {L : List (List Int × Int)} {N : List (Nat × Int)} {G : List S41} (h : Pl w W0 base s m F L N G) (hsm : s ≠ m) (hb : base ≤ w.heap.size) (hW : Below W0.heap.size W0 w) (h0 : W0.heap.size ≤ s) (h1 : W0.heap.size ≤ m) (hlF : F.length ≤ 90) (hlL : L.length ≤ 90) (hlN : N.length ≤ 90) (hlG : G.length ≤ 90)
    (what n1 at_ : Int) (c0 : -9223372036854775808 ≤ what) (c1 : what < 9223372036854775808) {P : Option Addr} {cp : Nat} {R : Option Addr} {cr : Nat} {ps rs : List Int} (inst fn ans lo hi : Int) (has : Bool) (ty : Int) (mu : Bool) (v : Int)
    (hP : I64.C W0 P ps.length ps) (lP : ps.length ≤ cp) (kP : ps.length ≤ 300) (hR : I64.C W0 R rs.length rs) (lR : rs.length ≤ cr) (kR : rs.length ≤ 300) :
    Calls Try.prog 20 #[.pointer (some ⟨s, 0, none⟩), .pointer (some ⟨m, 0, none⟩), .agg (D14 what n1 at_ P ps.length cp R rs.length cr inst fn ans lo hi has ty mu v)] w fun e w' => e = .returned (.bool true) ∧ ODone w w' W0 base s m F L N G := by
  obtain ⟨r, hr, hr6⟩ := pick_six what c0 c1
  have hWs : W0.heap.size ≤ w.heap.size := hW.size
  rcases hr6 with rfl | rfl | rfl | rfl | rfl | rfl
  · exact one_func h hsm hb hW h0 h1 hlF what n1 at_ inst fn ans lo hi has ty mu v hP lP kP hR lR kR hr
  · refine one_adds1 hWs what n1 at_ inst fn ans lo hi has ty mu v hr (fun W hB => ?_)
    have hWW := hW.trans (below_mono hB hWs)
    by_cases ht : tabOk lo hi has
    · obtain ⟨k, rfl⟩ := Int.eq_ofNat_of_zero_le ht.1
      exact adds_t_yes (h.below hB) hsm (Nat.le_trans hb hB.size) hWW h0 h1 hlL what n1 at_ inst fn ans k hi has ty mu v hr ht
    · exact adds_t_no (h.below hB) hWW what n1 at_ inst fn ans lo hi has ty mu v hr ht
  · refine one_adds2 hWs what n1 at_ inst fn ans lo hi has ty mu v hr (fun W hB => ?_)
    have hWW := hW.trans (below_mono hB hWs)
    by_cases ht : may lo hi has
    · exact adds_m_yes (h.below hB) hsm (Nat.le_trans hb hB.size) hWW h0 h1 hlN what n1 at_ inst fn ans lo hi has ty mu v hr ht
    · exact adds_m_no (h.below hB) hWW what n1 at_ inst fn ans lo hi has ty mu v hr ht
  · exact one_glob h hsm hb hW h0 h1 hlG what n1 at_ inst fn ans lo hi has ty mu v hP lP kP hR lR kR hr
  · by_cases hn : 0 ≤ n1 ∧ n1 < L.length ∧ 0 ≤ at_ ∧ ∀ p, L[n1.toNat]? = some p → at_ < p.1.length
    · obtain ⟨a, b, c, d⟩ := hn
      obtain ⟨k, rfl⟩ := Int.eq_ofNat_of_zero_le a
      obtain ⟨i, rfl⟩ := Int.eq_ofNat_of_zero_le c
      have hk : k < L.length := by omega
      have hd := d (L[k]) (by rw [Int.toNat_natCast]; exact List.getElem?_eq_getElem hk)
      exact one_st_in h hsm hb hW h0 h1 hlL what k i inst fn ans lo hi has ty mu v hr hk _ (List.getElem?_eq_getElem hk) (by omega)
    · exact one_st_no h hsm hb hW what n1 at_ inst fn ans lo hi has ty mu v hr hn
  · by_cases hn : 0 ≤ n1 ∧ n1 < G.length
    · obtain ⟨k, rfl⟩ := Int.eq_ofNat_of_zero_le hn.1
      exact one_sg_in h hsm hb hW h0 h1 hlG what k at_ inst fn ans lo hi has ty mu v hr (by omega)
    · exact one_sg_no h hsm hb hW what n1 at_ inst fn ans lo hi has ty mu v hr hn
end Go.Proofs.Ytbelijoggbblgaa.Sp
