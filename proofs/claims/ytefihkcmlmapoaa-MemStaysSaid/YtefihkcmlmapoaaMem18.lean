import Derived.Test.YtefihkcmlmapoaaMem17
import Derived.LaidEql
namespace Go.Proofs.Ytefihkcmlmapoaa.Mem
open Go.RowKit Go.Proofs.YtefihkcmlmapoaaW.PrintWords Go.Proofs.YtefihkcmlmapoaaW.PrintLast Go.Proofs.YtefihkcmlmapoaaW.PrintMore Go.Proofs.Ytefihkcmlmapoaa.PMemHalves
set_option linter.unusedVariables false
set_option linter.unusedSimpArgs false
theorem equalIn_err (w : World) (d : Nat) (a b : Int) : (Op.equalIn (d + 2) 29 (.iface 36 (.int .i64 a)) (.iface 36 (.int .i64 b))).run Try.prog w = .ok (a == b) w := by
  obtain ⟨ms, hi⟩ : ∃ ms, Try.prog.underlying 29 = some (.interface ms) := ⟨Try.prog.methodsAt 29, by kernel_rfl⟩
  have hn : Try.prog.underlying 36 = some (.int .i64) := by kernel_rfl
  obtain ⟨i, hinfo, hcomp⟩ : ∃ i, Try.prog.info? 36 = some i ∧ i.comparable = true := by
    have h : (Try.prog.info? 36).map (·.comparable) = some true := by kernel_rfl
    cases hq : Try.prog.info? 36 with
    | none => rw [hq] at h; cases h
    | some i => rw [hq] at h; exact ⟨i, rfl, Option.some.inj h⟩
  simp [Op.equalIn, run_underlying hi, run_underlying hn, typeInfo, hinfo, hcomp]
theorem err_eql (w : World) (a b : Int) : (binOp .eql 29 (.iface 36 (.int .i64 a)) (.iface 36 (.int .i64 b))).run Try.prog w = .ok (.bool (a == b)) w := by
  simp only [binOp]
  simp [Op.equal, Op.maxDepth, equalIn_err w 9998 a b]
def may (lo hi : Int) (has : Bool) : Prop := 0 ≤ lo ∧ lo ≤ 16 ∧ (has = true → lo ≤ hi ∧ hi ≤ 16)
theorem may_t {lo hi : Int} {has : Bool} (h : may lo hi has) : grommetref15_May.f lo hi has = some true := by
  rw [may_f]; unfold may at h; rw [decide_eq_true h]
theorem may_n {lo hi : Int} {has : Bool} (h : ¬ may lo hi has) : grommetref15_May.f lo hi has = some false := by
  rw [may_f]; unfold may at h; rw [decide_eq_false h]
set_option maxHeartbeats 1000000 in
theorem new_no (w : World) (lo hi : Int) (has : Bool) (h : ¬ may lo hi has) :
    Calls Try.prog 10 #[.agg #[.int .i64 lo, .int .i64 hi, .bool has]] w fun e w' => e = .returned (.tuple #[.pointer none, .iface 36 (.int .i64 1)]) ∧ Below w.heap.size w w' := by
  by_cases h0 : lo < 0
  · have e0 : decide (lo < 0) = true := decide_eq_true h0
    clear h
    go_enter Try.func10, Try.ntmps10
    go_wp2
    go_ret2
    exact ⟨rfl, below_alloc (Below.refl _ _) _⟩
  · have e0 : decide (lo < 0) = false := decide_eq_false h0
    by_cases h1 : 16 < lo
    · have e1 : decide (16 < lo) = true := decide_eq_true h1
      clear h
      go_enter Try.func10, Try.ntmps10
      go_wp2
      go_ret2
      exact ⟨rfl, below_alloc (Below.refl _ _) _⟩
    · have e1 : decide (16 < lo) = false := decide_eq_false h1
      have h2 : has = true ∧ (hi < lo ∨ 16 < hi) := by
        unfold may at h
        cases has
        · exact absurd ⟨by omega, by omega, fun h => by cases h⟩ h
        · refine ⟨rfl, ?_⟩
          by_cases hc : hi < lo ∨ 16 < hi
          · exact hc
          · exact absurd ⟨by omega, by omega, fun _ => by omega⟩ h
      obtain ⟨rfl, h2⟩ := h2
      clear h
      by_cases h3 : hi < lo
      · have e2 : decide (hi < lo) = true := decide_eq_true h3
        clear h2
        go_enter Try.func10, Try.ntmps10
        go_wp2
        go_ret2
        exact ⟨rfl, below_alloc (Below.refl _ _) _⟩
      · have e2 : decide (hi < lo) = false := decide_eq_false h3
        have h4 : 16 < hi := by omega
        have e3 : decide (16 < hi) = true := decide_eq_true h4
        clear h2
        go_enter Try.func10, Try.ntmps10
        go_wp2
        go_ret2
        exact ⟨rfl, below_alloc (Below.refl _ _) _⟩
def MNew (w : World) (most : Int) (m : Nat) (e : Ending) (w' : World) : Prop := ∃ (g : Nat) (A : Option Addr) (c : Nat), e = .returned (.tuple #[.pointer (some ⟨g, 0, none⟩), .nilIface]) ∧ Mm w' w.heap.size 55 g A m c (List.replicate m 0) most ∧ Below w.heap.size w w'
theorem mnew (w : World) (lo hi : Int) (has : Bool) (h : may lo hi has) :
    Calls Try.prog 10 #[.agg #[.int .i64 lo, .int .i64 hi, .bool has]] w (MNew w (if has = true then hi else 16) (lo * 256).toNat) :=
  (new_calls w lo hi has h.1 h.2.1 h.2.2).mono fun e w' ⟨he, hb, hg, hB⟩ => ⟨w.heap.size + 1 + 1, some ⟨w.heap.size + 1, 0, none⟩, (lo * 256).toNat, he,
    ⟨List.length_replicate, by omega, hg, ⟨by simp, .inr ⟨w.heap.size + 1, (lo * 256).toNat, _, rfl, by omega, hb, Nat.le_refl _, by have := h.1; have := h.2.1; unfold maxLen; omega, by simp [madeCells], by
      rw [made_bytes]
      simp [bytes]⟩⟩, rep_range _⟩, hB⟩
set_option maxHeartbeats 2000000 in
theorem memnew_no (w : World) (lo hi : Int) (has : Bool) (h : ¬ may lo hi has) :
    Calls Try.prog 4 #[.agg #[.int .i64 lo, .int .i64 hi, .bool has]] w fun e w' => e = .returned (.bool true) ∧ Below w.heap.size w w' := by
  have hm := may_n h
  have he := err_eql
  go_enter Try.func4, Try.ntmps4
  go_wp2_with (first | (go_at_call 8; (refine (up_lim _ _).mono ?_); rintro e w1 ⟨rfl, hR1, hB1⟩; have q0 := hR1.cell 0; have q1 := hR1.cell 1; have q2 := hR1.cell 2; simp only [List.getElem?_toArray, List.getElem?_cons_zero, List.getElem?_cons_succ] at q0 q1 q2) | (go_at_call 10; (refine (new_no _ lo hi has h).mono ?_); rintro e w2 ⟨rfl, hB2⟩; have hR2 := hR1.below hB2 hR1.lt; have hB12 := below_then hB1 hB1.size hB2; clear q0 q1 q2 hR1 hB1 hB2; have q0 := hR2.cell 0; have q1 := hR2.cell 1; have q2 := hR2.cell 2; simp only [List.getElem?_toArray, List.getElem?_cons_zero, List.getElem?_cons_succ] at q0 q1 q2) | (go_at_call 9; (refine (grommetref15_May.calls lo hi has false _ hm).mono ?_); rintro e w3 ⟨rfl, hB3⟩))
  go_ret
  exact ⟨rfl, below_then hB12 hB12.size hB3⟩
end Go.Proofs.Ytefihkcmlmapoaa.Mem
