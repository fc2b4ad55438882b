import Derived.Test.YtefihkcmlmapoaaMem1
namespace Go.Proofs.Ytefihkcmlmapoaa.Mem
open Go.RowKit Go.Proofs.YtefihkcmlmapoaaW.PrintWords Go.Proofs.YtefihkcmlmapoaaW.PrintLast Go.Proofs.YtefihkcmlmapoaaW.PrintMore Go.Proofs.Ytefihkcmlmapoaa.PMemHalves
set_option linter.unusedVariables false
set_option linter.unusedSimpArgs false
theorem there_no {w : World} {g b n : Nat} {most : Int} (hg : Row w g 55 #[.slice (some ⟨b, 0, none⟩) n n, .int .i64 most]) (at_ m : Nat) (ha : at_ < 18446744073709551616) (hm : m ≤ 8) (hin : ¬ at_ + m ≤ n) (hlen : n ≤ 4096) (k : Nat) :
    Calls Try.prog 22 #[.pointer (some ⟨g, 0, none⟩), .int .u64 at_, .int .i64 m] (w.drewN k) fun e w' => e = .returned (.bool false) ∧ Drawn0 (w.drewN k) w' := by
  have ht : (decide ((at_ : Int) ≤ IntKind.u64.wrap (n : Int)) && decide (IntKind.u64.wrap (m : Int) ≤ IntKind.u64.wrap (IntKind.u64.wrap (n : Int) - at_))) = false := by
    simp only [IntKind.wrap_u64, Bool.and_eq_false_iff, decide_eq_false_iff_not]
    omega
  have h := there_calls (w := w.drewN k) (g := g) (n := n) (c := n) hg at_ m
  rw [ht] at h
  exact h
set_option maxHeartbeats 1000000 in
theorem store_no {w : World} {g b n : Nat} {most : Int} (hg : Row w g 55 #[.slice (some ⟨b, 0, none⟩) n n, .int .i64 most]) (at_ m : Nat) (v : Int) (ha : at_ < 18446744073709551616)
    (hm : m = 1 ∨ m = 2 ∨ m = 4 ∨ m = 8) (hin : ¬ at_ + m ≤ n) (hlen : n ≤ 4096) :
    Calls Try.prog 11 #[.pointer (some ⟨g, 0, none⟩), .int .u64 at_, .int .i64 m, .int .u64 v] w fun e w' => e = .returned (.bool false) ∧ Drawn0 w w' := by
  have hw : mem_width.f (m : Int) = some true := by
    unfold mem_width.f
    rcases hm with rfl | rfl | rfl | rfl <;> rfl
  have hth := there_no hg at_ m ha (by omega) hin hlen
  go_enter Try.func11, Try.ntmps11
  go_wp2_with (first | (go_at_call 21; (with_reducible refine (mem_width.calls m true _ hw).mono ?_); rintro e w' ⟨rfl, ⟨nd, rfl⟩⟩) | (go_at_call 22; (refine (hth _).mono ?_); rintro e w' ⟨rfl, ⟨nd2, rfl⟩⟩))
  go_ret
  exact ⟨rfl, ⟨_, rfl⟩⟩
set_option maxHeartbeats 1000000 in
theorem load_no {w : World} {g b n : Nat} {most : Int} (hg : Row w g 55 #[.slice (some ⟨b, 0, none⟩) n n, .int .i64 most]) (at_ m : Nat) (ha : at_ < 18446744073709551616)
    (hm : m = 1 ∨ m = 2 ∨ m = 4 ∨ m = 8) (hin : ¬ at_ + m ≤ n) (hlen : n ≤ 4096) :
    Calls Try.prog 12 #[.pointer (some ⟨g, 0, none⟩), .int .u64 at_, .int .i64 m] w fun e w' => e = .returned (.tuple #[.int .u64 0, .bool false]) ∧ Drawn0 w w' := by
  have hw : mem_width.f (m : Int) = some true := by
    unfold mem_width.f
    rcases hm with rfl | rfl | rfl | rfl <;> rfl
  have hth := there_no hg at_ m ha (by omega) hin hlen
  go_enter Try.func12, Try.ntmps12
  go_wp2_with (first | (go_at_call 21; (with_reducible refine (mem_width.calls m true _ hw).mono ?_); rintro e w' ⟨rfl, ⟨nd, rfl⟩⟩) | (go_at_call 22; (refine (hth _).mono ?_); rintro e w' ⟨rfl, ⟨nd2, rfl⟩⟩))
  go_ret2
  exact ⟨rfl, ⟨_, rfl⟩⟩
/-- Load, in the memory or not. -/
theorem load_any {w : World} {g b : Nat} {most : Int} {xs : List Int} (hx : ∀ x ∈ xs, 0 ≤ x ∧ x < 256) (hb : Row w b 5 (bytes xs)) (hg : Row w g 55 #[.slice (some ⟨b, 0, none⟩) xs.length xs.length, .int .i64 most]) (at_ m : Nat) (ha : at_ < 18446744073709551616)
    (hm : m = 1 ∨ m = 2 ∨ m = 4 ∨ m = 8) (hlen : xs.length ≤ 4096) :
    Calls Try.prog 12 #[.pointer (some ⟨g, 0, none⟩), .int .u64 at_, .int .i64 m] w fun e w' => e = .returned (.tuple #[.int .u64 (if at_ + m ≤ xs.length then get xs at_ m else 0), .bool (decide (at_ + m ≤ xs.length))]) ∧ Drawn0 w w' := by
  by_cases h : at_ + m ≤ xs.length
  · rw [if_pos h, decide_eq_true h]; exact load_calls hx hb hg at_ m hm h hlen
  · rw [if_neg h, decide_eq_false h]; exact load_no hg at_ m ha hm h hlen
end Go.Proofs.Ytefihkcmlmapoaa.Mem
