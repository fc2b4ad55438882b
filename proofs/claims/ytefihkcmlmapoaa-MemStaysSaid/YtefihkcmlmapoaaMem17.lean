import Derived.Test.YtefihkcmlmapoaaMem16
namespace Go.Proofs.Ytefihkcmlmapoaa.Mem
open Go.RowKit Go.Proofs.YtefihkcmlmapoaaW.PrintWords Go.Proofs.YtefihkcmlmapoaaW.PrintLast Go.Proofs.YtefihkcmlmapoaaW.PrintMore Go.Proofs.Ytefihkcmlmapoaa.PMemHalves
set_option linter.unusedVariables false
set_option linter.unusedSimpArgs false
theorem Mm.mono {w : World} {base base' : Nat} {ty : TypeId} {g : Nat} {A : Option Addr} {n c : Nat} {xs : List Int} {most : Int} (h : Mm w base ty g A n c xs most) (hb : base' ≤ base) : Mm w base' ty g A n c xs most :=
  ⟨h.len, Nat.le_trans hb h.lo, h.row, (h.bs.mono hb).own, h.rng⟩
set_option maxHeartbeats 1000000 in
theorem rgrow_no {w : World} {base g n c : Nat} {A : Option Addr} {most : Int} {xs : List Int} (h : Mm w base 42 g A n c xs most) (hn : n ≤ 4096) (k : Int) (k0 : 0 ≤ k) (hm : 16 < k ∨ most < (n : Int) / 256 + k) (hm2 : most ≤ 16) :
    Calls Try.prog 28 #[.pointer (some ⟨g, 0, none⟩), .int .u64 k] w fun e w' => e = .returned (.int .u64 4294967295) ∧ Drawn0 w w' := by
  have c0 : w.cell? ⟨g, 0, none⟩ = some (.slice A n c) := h.row.cell 0
  have c1 : w.cell? ⟨g, 1, none⟩ = some (.int .i64 most) := h.row.cell 1
  clear h
  by_cases h16 : 16 < k
  · have d16 : decide (16 < k) = true := decide_eq_true h16
    clear hm
    go_enter Try.func28, Try.ntmps28
    go_wp2
    go_ret
    exact ⟨rfl, Drawn0.refl _⟩
  · have d16 : decide (16 < k) = false := decide_eq_false h16
    have ek : IntKind.i64.wrap k = k := by rw [IntKind.wrap_i64]; omega
    have hm' : most < (n : Int) / 256 + k := by omega
    clear hm
    go_enter Try.func28, Try.ntmps28
    go_wp2
    go_ret
    exact ⟨rfl, Drawn0.refl _⟩
def RNew (w : World) (most : Int) (m : Nat) (e : Ending) (w' : World) : Prop := ∃ (g : Nat) (A : Option Addr) (c : Nat), e = .returned (.pointer (some ⟨g, 0, none⟩)) ∧ Mm w' w.heap.size 42 g A m c (List.replicate m 0) most ∧ Below w.heap.size w w'
set_option maxHeartbeats 2000000 in
theorem rnew (w : World) (lo hi : Int) (has : Bool) (h0 : 0 ≤ lo) (h1 : lo ≤ 16) :
    Calls Try.prog 13 #[.agg #[.int .i64 lo, .int .i64 hi, .bool has]] w (RNew w (if has = true then hi else 16) (lo * 256).toNat) := by
  obtain ⟨m, hm⟩ : ∃ m, m = (lo * 256).toNat := ⟨_, rfl⟩
  have hml : (m : Int) = lo * 256 := by omega
  rw [← hm]
  have HM := Aside0.mk hml
  clear hm hml
  obtain ⟨most, hmost⟩ : ∃ most, most = (if has = true then hi else 16) := ⟨_, rfl⟩
  rw [← hmost]
  have HMO := Aside0.mk hmost
  clear hmost
  have start : ∀ (W : World) (cs : Array Value), W.heap.size = w.heap.size + 1 → Below w.heap.size w W → Mm (W.alloc (.cells #[.slice none 0 0, .int .i64 most] 42)) (w.heap.size + 1) 42 (w.heap.size + 1) none 0 0 (List.replicate 0 0) most :=
    fun W cs hs hB => ⟨rfl, Nat.le_refl _, Row.made _ _ _ hs.symm, (World.ownsRow_nil _ _ _ _), by intro x hx; simp at hx⟩
  cases has
  all_goals
    go_enter Try.func13, Try.ntmps13
    go_wp2_with fail
    go_loopg [4] m (fun kq v4 w' => ∃ (j : Nat) (A' : Option Addr) (c' : Nat), v4 = .int .i64 j ∧ j + kq = m ∧ Mm w' (w.heap.size + 1) 42 (w.heap.size + 1) A' j c' (List.replicate j 0) most ∧ w'.cell? ⟨w.heap.size, 0, none⟩ = some (.int .i64 lo) ∧ Below w.heap.size w w')
    case atStart =>
      have hmo := HMO.out
      simp at hmo
      refine ⟨0, none, 0, rfl, by omega, ?_, by simp, below_alloc (below_alloc (Below.refl _ _) _) _⟩
      rw [← hmo]
      exact start _ #[] (by simp) (below_alloc (Below.refl _ _) _)
    case round =>
      obtain ⟨j, A1, d1, rfl, hj, hr, hl, hB⟩ := hrel
      have hml := HM.out
      cases gk with
      | zero =>
        obtain rfl : j = m := by omega
        have hge : ¬ ((j : Int) < lo * 256) := by omega
        go_wp2
        go_ret
        exact ⟨w.heap.size + 1, A1, d1, rfl, hr.mono (by omega), hB⟩
      | succ k2 =>
        have hlt : ((j : Int) < lo * 256) = True := eq_true (by omega)
        have c0 : wr.cell? ⟨w.heap.size + 1, 0, none⟩ = some (.slice A1 j d1) := hr.row.cell 0
        have hf0 := hr.row.frozen 0
        have hne := hr.ne (by decide)
        have hgr := hr.row.lt
        obtain ⟨b2, d2, w2, hrun, hB2, hg2, hat⟩ := push_zero hr.bs (by omega) (by omega) 40
        have hrow := (hr.row.alloc (.cells #[.int .u8 0] 5)).grown hg2 (fun e => hne e)
        have q0 := hrow.cell 0
        have q1 := hrow.frozen 0
        simp only [List.getElem?_toArray, List.getElem?_cons_zero] at q0
        have hge : ∀ i, blk A1 = some i → w.heap.size + 1 ≤ i := fun i hi => (hr.own.lt i (by rw [ownBlock_slice]; exact hi)).1
        have hBx : Below (w.heap.size + 1) wr (w2.setCell ⟨w.heap.size + 1, 0, none⟩ (.slice (some ⟨b2, 0, none⟩) (j + 1) d2)) :=
          (((Below.refl _ wr).alloc (by omega) (.cells #[.int .u8 0] 5)).grown hg2 (by simp; omega) hge).setCell (Nat.le_refl _) _
        have hl2 := (hBx.cell (p := ⟨w.heap.size, 0, none⟩) (by simp)).trans hl
        have hB3 := hB.trans (hBx.mono (by omega))
        have hM : Mm (w2.setCell ⟨w.heap.size + 1, 0, none⟩ (.slice (some ⟨b2, 0, none⟩) (j + 1) d2)) (w.heap.size + 1) 42 (w.heap.size + 1) (some ⟨b2, 0, none⟩) (j + 1) d2 (List.replicate (j + 1) 0) most := by
          have hne2 : b2 ≠ w.heap.size + 1 := by
            intro hbe
            rcases hB2.own.2 with ⟨hv, _⟩ | ⟨b', cap, cur, hv, hb, hh, _⟩
            · cases hv
            · simp only [Value.slice.injEq, Option.some.injEq, Addr.mk.injEq, and_true, true_and] at hv
              obtain ⟨rfl, _⟩ := hv
              exact hrow.differ hh (by decide) hbe.symm
          have hk := hB2.kept (grown_set (World.grownBy.refl w2 (some (w.heap.size + 1))) 0 (.slice (some ⟨b2, 0, none⟩) (j + 1) d2)) (.inr (by simp [blk, hne2]))
          rw [← List.replicate_succ'] at hk
          exact ⟨hk.len, hr.lo, by simpa using hrow.put_ 0 (.slice (some ⟨b2, 0, none⟩) (j + 1) d2), hk.own, rep_range _⟩
        have hjb : (j : Int) ≤ 4096 := by omega
        have HRUN := Aside0.mk hrun
        have HL2 := Aside0.mk hl2
        clear hrun hr hB hne hB2 hg2 hat hge hBx hl2 hml
        go_wp2_with (at_builtin; refine Lib.wpList_append_run _ rfl (.tmp 25) (.tmp 26) 40 40 rfl _ _ rfl rfl _ _ HRUN.out ?_)
        go_roundg k2
        case measure => omega
        case rel => exact ⟨j + 1, _, d2, by simp, by omega, hM, HL2.out, hB3⟩
end Go.Proofs.Ytefihkcmlmapoaa.Mem
