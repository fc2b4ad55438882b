import Derived.Test.YtefihkcmlmapoaaMem15
import Derived.Deep.AppendLies
namespace Go.Proofs.Ytefihkcmlmapoaa.Mem
open Go.RowKit Go.Proofs.YtefihkcmlmapoaaW.PrintWords Go.Proofs.YtefihkcmlmapoaaW.PrintLast Go.Proofs.YtefihkcmlmapoaaW.PrintMore Go.Proofs.Ytefihkcmlmapoaa.PMemHalves
set_option linter.unusedVariables false
set_option linter.unusedSimpArgs false
theorem rep_succ (xs : List Int) (j : Nat) : xs ++ List.replicate j (0 : Int) ++ [0] = xs ++ List.replicate (j + 1) 0 := by
  rw [List.append_assoc, ← List.replicate_succ']
theorem push_zero {w : World} {base n c : Nat} {A : Option Addr} {xs : List Int} (h : Bs w base A n c xs) (hb : base ≤ w.heap.size) (hn : n + 1 ≤ 65536) (ty : TypeId) :
    ∃ b c' w', (Builtin.append_ #[40, 40] ty #[.slice A n c, .slice (some ⟨w.heap.size, 0, none⟩) 1 1]).run Try.prog (w.alloc (.cells #[.int .u8 0] 5)) = .ok (.slice (some ⟨b, 0, none⟩) (n + 1) c') w' ∧
    Bs w' base (some ⟨b, 0, none⟩) (n + 1) c' (xs ++ [0]) ∧ (w.alloc (.cells #[.int .u8 0] 5)).grownBy w' (blk A) ∧ (blk A = some b ∨ w.heap.size ≤ b) := by
  obtain ⟨i0, hi, hz0, hz1, hz2⟩ := info_parts info5
  obtain ⟨b, c', w', hr, ho, hg, hat, _⟩ := run_append_lies (P := Try.prog) (w.alloc (.cells #[.int .u8 0] 5)) 40 ty base 5 i0 (.int .u8 0) 1 1 Try.underlying40 hi hz0 hz1 hz2 rfl (by decide) (.slice A n c) n _ (h.own.alloc _) ⟨w.heap.size, 0, none⟩ 1 1 [.int .u8 0] rfl
    (by
      intro j u hj
      match j, hj with
      | 0, hj => simp at hj; subst hj; simp [Addr.add])
    (by intro u hu; simp at hu; subst hu; rfl) (by decide) (by unfold maxLen; omega) (by omega) (by simp; omega) (w.heap.size + 1) (by simp)
  have e : xs.map (Value.int .u8) ++ [.int .u8 0] = (xs ++ [0]).map (Value.int .u8) := by simp
  rw [e] at ho
  rw [ownBlock_slice] at hg hat
  exact ⟨b, c', w', hr, ⟨by simp [h.len], ho⟩, hg, hat.imp id (fun h => by omega)⟩
set_option maxHeartbeats 2000000 in
theorem rgrow_ok {w : World} {base g n c : Nat} {A : Option Addr} {most : Int} {xs : List Int} (h : Mm w base 42 g A n c xs most) (hbase : base ≤ w.heap.size) (hn : n ≤ 4096) (k : Nat) (hk : k ≤ 16) (hm : (n : Int) / 256 + k ≤ most) (hm2 : most ≤ 16) :
    Calls Try.prog 28 #[.pointer (some ⟨g, 0, none⟩), .int .u64 k] w fun e w' => ∃ A' c', e = .returned (.int .u64 ((n : Int) / 256)) ∧ Mm w' base 42 g A' (n + k * 256) c' (xs ++ List.replicate (k * 256) 0) most ∧
      Only w w' (fun i => i = g ∨ blk A = some i) ∧ ∀ j, blk A' = some j → blk A = some j ∨ w.heap.size ≤ j := by
  have c0 : w.cell? ⟨g, 0, none⟩ = some (.slice A n c) := h.row.cell 0
  have c1 : w.cell? ⟨g, 1, none⟩ = some (.int .i64 most) := h.row.cell 1
  have ek : IntKind.i64.wrap (k : Int) = (k : Int) := by rw [IntKind.wrap_i64]; omega
  have d16 : decide ((16 : Int) < (k : Int)) = false := decide_eq_false (by omega)
  have H := Aside0.mk h
  have hgl := h.row.lt
  clear h
  go_enter Try.func28, Try.ntmps28
  go_wp2_with fail
  go_loopg [6] (k * 256) (fun kq v6 w' => ∃ (j : Nat) (A' : Option Addr) (c' : Nat), v6 = .int .i64 j ∧ j + kq = k * 256 ∧ Mm w' base 42 g A' (n + j) c' (xs ++ List.replicate j 0) most ∧ Only w w' (fun i => i = g ∨ blk A = some i) ∧ ∀ i, blk A' = some i → blk A = some i ∨ w.heap.size ≤ i)
  case atStart => exact ⟨0, A, c, rfl, by omega, by simpa using H.out, Only.refl _ _, fun i hi => .inl hi⟩
  case round =>
    obtain ⟨j, A1, d1, rfl, hj, hr, hO, hA⟩ := hrel
    cases gk with
    | zero =>
      obtain rfl : j = k * 256 := by omega
      go_wp2
      go_ret
      exact ⟨A1, d1, rfl, hr, hO, hA⟩
    | succ k2 =>
      have hlt : ((j : Int) < (k : Int) * 256) = True := eq_true (by omega)
      have c0 : wr.cell? ⟨g, 0, none⟩ = some (.slice A1 (n + j) d1) := hr.row.cell 0
      have hf0 := hr.row.frozen 0
      have hne := hr.ne (by decide)
      have hgr := hr.row.lt
      obtain ⟨b2, d2, w2, hrun, hB2, hg2, hat⟩ := push_zero hr.bs (Nat.le_trans hbase hO.size) (by omega) 40
      have hrow := (hr.row.alloc (.cells #[.int .u8 0] 5)).grown hg2 (fun e => hne e)
      have q0 := hrow.cell 0
      have q1 := hrow.frozen 0
      simp only [List.getElem?_toArray, List.getElem?_cons_zero] at q0
      have hO2 : Only w (w2.setCell ⟨g, 0, none⟩ (.slice (some ⟨b2, 0, none⟩) (n + j + 1) d2)) (fun i => i = g ∨ blk A = some i) := by
        refine Only.set ((hO.alloc (.cells #[.int .u8 0] 5)).grown hg2 (fun i hi => ?_)) (.inl (.inl rfl)) _
        rcases hA i hi with h1 | h1
        · exact .inl (.inr h1)
        · exact .inr h1
      have hA2 : ∀ i, blk (some ⟨b2, 0, none⟩) = some i → blk A = some i ∨ w.heap.size ≤ i := by
        intro i hi
        obtain rfl : b2 = i := by injection hi
        rcases hat with h1 | h1
        · exact hA _ h1
        · exact .inr (Nat.le_trans hO.size h1)
      have hM : Mm (w2.setCell ⟨g, 0, none⟩ (.slice (some ⟨b2, 0, none⟩) (n + j + 1) d2)) base 42 g (some ⟨b2, 0, none⟩) (n + j + 1) d2 (xs ++ List.replicate (j + 1) 0) most := by
        have hne2 : b2 ≠ g := by
          rintro rfl
          rcases hB2.own.2 with ⟨hv, _⟩ | ⟨b', cap, cur, hv, hb, hh, _⟩
          · cases hv
          · simp only [Value.slice.injEq, Option.some.injEq, Addr.mk.injEq, and_true, true_and] at hv
            obtain ⟨rfl, _⟩ := hv
            exact hrow.differ hh (by decide) rfl
        have hk := hB2.kept (grown_set (World.grownBy.refl w2 (some g)) 0 (.slice (some ⟨b2, 0, none⟩) (n + j + 1) d2)) (.inr (by simp [blk, hne2]))
        rw [rep_succ] at hk
        refine ⟨hk.len, hr.lo, by simpa using hrow.put_ 0 (.slice (some ⟨b2, 0, none⟩) (n + j + 1) d2), hk.own, ?_⟩
        intro x hx
        rcases List.mem_append.1 hx with h1 | h1
        · exact H.out.rng x h1
        · exact rep_range _ x h1
      have HRUN := Aside0.mk hrun
      clear hrun hr hO hA hne hB2 hg2 hat
      go_wp2_with (at_builtin; refine Lib.wpList_append_run _ rfl (.tmp 37) (.tmp 38) 40 40 rfl _ _ rfl rfl _ _ HRUN.out ?_)
      go_roundg k2
      case measure => omega
      case rel => exact ⟨j + 1, _, d2, by simp, by omega, hM, hO2, hA2⟩
end Go.Proofs.Ytefihkcmlmapoaa.Mem
