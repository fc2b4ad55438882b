import Derived.Test.YtefihkcmlmapoaaMem18
import Derived.Deep.QuietTactic
import Derived.BigQuiet
namespace Go.Proofs.Ytefihkcmlmapoaa.Mem
open Go.RowKit Go.Proofs.YtefihkcmlmapoaaW.PrintWords Go.Proofs.YtefihkcmlmapoaaW.PrintLast Go.Proofs.YtefihkcmlmapoaaW.PrintMore Go.Proofs.Ytefihkcmlmapoaa.PMemHalves
set_option linter.unusedVariables false
set_option linter.unusedSimpArgs false
theorem Mm.below' {w w' : World} {base : Nat} {ty : TypeId} {g : Nat} {A : Option Addr} {n c : Nat} {xs : List Int} {most : Int} (h : Mm w base ty g A n c xs most) (hB : Below w.heap.size w w') : Mm w' base ty g A n c xs most :=
  h.kept (grown_of_below hB none) (by simp) (by cases hb : blk A <;> simp)
theorem Bs.below' {w w' : World} {base : Nat} {A : Option Addr} {n c : Nat} {xs : List Int} (h : Bs w base A n c xs) (hB : Below w.heap.size w w') : Bs w' base A n c xs :=
  h.kept (grown_of_below hB none) (by cases hb : blk A <;> simp)
theorem Bs.ge {w : World} {base : Nat} {A : Option Addr} {n c : Nat} {xs : List Int} (h : Bs w base A n c xs) {i : Nat} (hi : blk A = some i) : base ≤ i ∧ i < w.heap.size := h.own.lt i (by rw [ownBlock_slice]; exact hi)
theorem Mm.ge {w : World} {base : Nat} {ty : TypeId} {g : Nat} {A : Option Addr} {n c : Nat} {xs : List Int} {most : Int} (h : Mm w base ty g A n c xs most) {i : Nat} (hi : blk A = some i) : base ≤ i ∧ i < w.heap.size := h.bs.ge hi
/-- What was told stays while a block that was there before is written. -/
theorem Bs.stays {w w' : World} {base : Nat} {A : Option Addr} {n c : Nat} {xs : List Int} (h : Bs w base A n c xs) {row : Option Nat} (hg : w.grownBy w' row) (hr : ∀ k, row = some k → k < base) : Bs w' base A n c xs := by
  refine h.kept hg ?_
  cases hA : blk A with
  | none => exact .inl rfl
  | some i => exact .inr (fun e => by have := hr i e.symm; have := (h.ge hA).1; omega)
theorem below_of {B : Nat} {a w : World} {row : Option Nat} (h : a.grownBy w row) (hB : B ≤ a.heap.size) (hr : ∀ k, row = some k → B ≤ k) : Below B a w := (Below.refl B a).grown h hB hr
set_option maxHeartbeats 4000000 in
theorem keeps_no (w : World) (lo hi : Int) (has : Bool) (at_ n v more : Int) (h : ¬ may lo hi has) :
    Calls Try.prog 5 #[.agg #[.int .i64 lo, .int .i64 hi, .bool has], .int .u64 at_, .int .i64 n, .int .u64 v, .int .u64 more] w fun e w' => e = .returned (.bool true) ∧ Below w.heap.size w w' := by
  have hm := may_n h
  go_enter Try.func5, Try.ntmps5
  go_wp2_with (first | (go_at_call 8; (refine (up_lim _ _).mono ?_); rintro e w1 ⟨rfl, hR1, hB1⟩; have q0 := hR1.cell 0; have q1 := hR1.cell 1; have q2 := hR1.cell 2; simp only [List.getElem?_toArray, List.getElem?_cons_zero, List.getElem?_cons_succ] at q0 q1 q2) | (go_at_call 9; (refine (grommetref15_May.calls lo hi has false _ hm).mono ?_); rintro e w3 ⟨rfl, hB3⟩))
  go_ret
  exact ⟨rfl, below_then hB1 hB1.size hB3⟩
/-! ### the plain law -/
theorem put_out (xs : List Int) (a : Nat) (v : Int) : ∀ n i, (i < a ∨ a + n ≤ i) → (put xs a v n).getD i 0 = xs.getD i 0
  | 0, _, _ => rfl
  | n + 1, i, h => by
    rw [put]
    have ih := put_out xs a v n i (by omega)
    rw [← ih]
    simp [List.getD, List.getElem?_set, show ¬ a + n = i by omega]
theorem put_in (xs : List Int) (a : Nat) (v : Int) (n i : Nat) (h0 : a ≤ i) (h1 : i < a + n) (hl : a + n ≤ xs.length) : (put xs a v n).getD i 0 = v / 2 ^ (8 * (i - a)) % 256 := by
  have := put_at xs a v n (i - a) (by omega) hl
  rwa [show a + (i - a) = i by omega] at this
theorem putI_len (xs : List Int) (a m v : Int) : (putI xs a m v).length = xs.length := by
  unfold putI; split
  · exact put_len _ _ _ _
  · rfl
theorem get_append (xs ys : List Int) : ∀ n a, a + n ≤ xs.length → get (xs ++ ys) a n = get xs a n
  | 0, _, _ => rfl
  | n + 1, a, h => by
    rw [get, get, get_append xs ys n (a + 1) (by omega)]
    congr 1
    simp [List.getD, List.getElem?_append_left (show a < xs.length by omega)]
theorem pow256 (m : Nat) : (2 : Int) ^ (8 * m) = 256 ^ m := by
  rw [Int.pow_mul]; rfl
theorem emod_mul (q M : Int) (hM : 0 < M) : q % (256 * M) = q % 256 + 256 * (q / 256 % M) := by
  have h1 := Int.mul_ediv_add_emod q 256
  have h2 := Int.mul_ediv_add_emod (q / 256) M
  have b1 := Int.emod_nonneg q (show (256 : Int) ≠ 0 by decide)
  have b2 := Int.emod_lt_of_pos q (show (0 : Int) < 256 by decide)
  have b3 := Int.emod_nonneg (q / 256) (show M ≠ 0 by omega)
  have b4 := Int.emod_lt_of_pos (q / 256) hM
  generalize q % 256 = r at *
  generalize q / 256 % M = f at *
  have e : q = (r + 256 * f) + (256 * M) * (q / 256 / M) := by
    rw [Int.mul_assoc]
    omega
  rw [e, Int.add_mul_emod_self_left, Int.emod_eq_of_lt (by omega) (by omega)]
theorem get_put (xs : List Int) (a : Nat) (v : Int) : ∀ n j, a + n ≤ xs.length → j ≤ n → get (put xs a v n) (a + j) (n - j) = v / 256 ^ j % 256 ^ (n - j) := by
  intro n j hl hj
  obtain ⟨k, rfl⟩ : ∃ k, n = j + k := ⟨n - j, by omega⟩
  induction k generalizing j with
  | zero => simp [get, Int.emod_one]
  | succ k ih =>
    have e : j + (k + 1) = (j + 1) + k := by omega
    have h2 := ih (j + 1) (by omega) (by omega)
    rw [show j + 1 + k - (j + 1) = k by omega] at h2
    rw [show j + (k + 1) - j = k + 1 by omega, get, put_at xs a v (j + (k + 1)) j (by omega) hl]
    rw [show put xs a v (j + (k + 1)) = put xs a v (j + 1 + k) by rw [e], show a + j + 1 = a + (j + 1) from rfl, h2, pow256, Int.pow_succ, Int.pow_succ, ← Int.ediv_ediv_of_nonneg (Int.pow_nonneg (by decide))]
    generalize v / 256 ^ j = q
    have hp : (0 : Int) < 256 ^ k := Int.pow_pos (by decide)
    rw [Int.mul_comm (256 ^ k) 256, emod_mul _ _ hp]
theorem keeps_get (xs ys : List Int) (a m : Nat) (v : Int) (hl : a + m ≤ xs.length) : get (put xs a v m ++ ys) a m = v % 256 ^ m := by
  rw [get_append _ _ _ _ (by rw [put_len]; exact hl)]
  have := get_put xs a v m 0 hl (by omega)
  simpa using this
end Go.Proofs.Ytefihkcmlmapoaa.Mem
