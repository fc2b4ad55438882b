/- Small functions of the store: has (both), the closure that compares names, slices.IndexFunc with it. -/
import Derived.Test.YtbelijoggbblgaaEx7
namespace Go.Proofs.Ytbelijoggbblgaa.Ex
open Go.RowKit Go.Proofs.YtbelijoggbblgaaW.PrintWords Go.Proofs.YtbelijoggbblgaaW.PrintLast Go.Proofs.Ytbelijoggbblgaa.RStoreExports
set_option linter.unusedVariables false
set_option linter.unusedSimpArgs false
theorem has_calls (w : World) (A : Option Addr) (len c : Nat) (n : Int) :
    Calls Try.prog 29 #[.slice A len c, .int .i64 n] w fun e w' => e = .returned (.bool (decide (0 ≤ n) && decide (n < (len : Int)))) ∧ w' = w := by
  by_cases h0 : 0 ≤ n
  · have e0 : decide (n ≥ 0) = true := decide_eq_true h0
    have e1 : decide (0 ≤ n) = true := decide_eq_true h0
    go_enter Try.func29, Try.ntmps29
    go_wp2
    go_ret
    exact ⟨by simp [e1], rfl⟩
  · have e0 : decide (n ≥ 0) = false := decide_eq_false h0
    have e1 : decide (0 ≤ n) = false := decide_eq_false h0
    go_enter Try.func29, Try.ntmps29
    go_wp2
    go_ret
    exact ⟨by simp [e1], rfl⟩
theorem hasI_calls (w : World) (A : Option Addr) (len c : Nat) (n : Int) :
    Calls Try.prog 32 #[.slice A len c, .int .i64 n] w fun e w' => e = .returned (.bool (decide (0 ≤ n) && decide (n < (len : Int)))) ∧ w' = w := by
  by_cases h0 : 0 ≤ n
  · have e0 : decide (n ≥ 0) = true := decide_eq_true h0
    have e1 : decide (0 ≤ n) = true := decide_eq_true h0
    go_enter Try.func32, Try.ntmps32
    go_wp2
    go_ret
    exact ⟨by simp [e1], rfl⟩
  · have e0 : decide (n ≥ 0) = false := decide_eq_false h0
    have e1 : decide (0 ≤ n) = false := decide_eq_false h0
    go_enter Try.func32, Try.ntmps32
    go_wp2
    go_ret
    exact ⟨by simp [e1], rfl⟩
/-- The closure: is it this name? -/
theorem named_calls (w : World) (x : S74) (b : Nat) (name : ByteArray) (hb : w.cell? ⟨b, 0, none⟩ = some (.string name)) :
    Calls Try.prog 31 #[.agg #[.string x.f0, .int .i64 x.f1, .int .i64 x.f2], .pointer (some ⟨b, 0, none⟩)] w fun e w' => e = .returned (.bool (x.f0 == name)) ∧ Below w.heap.size w w' := by
  have hb2 : (w.alloc (.cells #[.string x.f0, .int .i64 x.f1, .int .i64 x.f2] 74)).cell? ⟨b, 0, none⟩ = some (.string name) := pw_cell_below (below_alloc (Below.refl _ _) _) hb
  clear hb
  go_enter Try.func31, Try.ntmps31
  go_wp2
  go_ret
  exact ⟨by rw [Go.beq_toListBytes]; rfl, below_alloc (Below.refl _ _) _⟩
/-- i is the place of the first of this name; -1: there is none. -/
def First (l : List S74) (name : ByteArray) (i : Int) : Prop :=
  (i = -1 ∧ ∀ j : Int, 0 ≤ j → j < l.length → ((rd_T74 l j).f0 == name) = false) ∨ (0 ≤ i ∧ i < l.length ∧ ((rd_T74 l i).f0 == name) = true ∧ ∀ j : Int, 0 ≤ j → j < i → ((rd_T74 l j).f0 == name) = false)
set_option maxHeartbeats 1000000 in
theorem index_calls {w : World} {A : Option Addr} {c : Nat} {l : List S74} (g : k74.C w A l.length l) (b : Nat) (name : ByteArray) (hb : w.cell? ⟨b, 0, none⟩ = some (.string name)) :
    Calls Try.prog 30 #[.slice A l.length c, .func (.func 31) #[] #[.pointer (some ⟨b, 0, none⟩)]] w fun e w' => ∃ i : Int, e = .returned (.int .i64 i) ∧ First l name i ∧ Below w.heap.size w w' := by
  have G := Aside0.mk g; have HN := Aside0.mk hb
  clear g hb
  go_enter Try.func30, Try.ntmps30
  go_wp2_with fail
  go_loopg [8] l.length (fun q_ v_ w_ => ∃ (k : Int), v_ = .int .i64 k ∧ Aside0 (0 ≤ k ∧ (q_ : Int) + k = l.length ∧ ∀ j : Int, 0 ≤ j → j < k → ((rd_T74 l j).f0 == name) = false) ∧ Aside0 (Below w.heap.size w w_))
  case atStart => exact ⟨0, rfl, ⟨⟨Int.le_refl _, by omega, fun j h1 h2 => by omega⟩⟩, ⟨Below.refl _ _⟩⟩
  case round =>
    obtain ⟨k, rfl, HK, HB⟩ := hrel
    have hk0 := HK.out.1
    have hk1 := HK.out.2.1
    by_cases hlt : k < (l.length : Int)
    · have d0 : decide (k < (l.length : Int)) = true := decide_eq_true hlt
      have d1 : decide (0 ≤ k) = true := decide_eq_true hk0
      have ew : IntKind.i64.wrap (k + 1) = k + 1 := by have := Kd.C_max G.out; rw [IntKind.wrap_i64]; omega
      obtain ⟨ad, eA, q0, q1, q2⟩ := at_T74 G.out k hk0 hlt
      cases eA
      obtain ⟨y, hy⟩ : ∃ y, y = rd_T74 l k := ⟨_, rfl⟩
      rw [← hy] at q0 q1 q2
      replace q0 := (HB.out.cell (World.block_lt_of_cell? w _ q0)).trans q0
      replace q1 := (HB.out.cell (World.block_lt_of_cell? w _ q1)).trans q1
      replace q2 := (HB.out.cell (World.block_lt_of_cell? w _ q2)).trans q2
      have HN2 := Aside0.mk (pw_cell_below HB.out HN.out)
      have HY := Aside0.mk hy
      clear hy
      cases hn : (y.f0 == name)
      · have HH := Aside0.mk hn
        clear hn
        go_wp2_with (first | (go_at_call 31; (refine (named_calls _ y b name HN2.out).mono ?_); rintro e w4 ⟨rfl, hB4⟩; rw [HH.out]; have HB4 := Aside0.mk hB4; clear hB4))
        go_roundg (l.length - (k + 1).toNat)
        case measure => omega
        case rel =>
          refine ⟨k + 1, by first | rfl | (simp; done) | (simp [*]; done), ⟨⟨by omega, by omega, fun j h1 h2 => ?_⟩⟩, ⟨HB.out.trans (St.below_mono HB4.out HB.out.size)⟩⟩
          by_cases e : j = k
          · rw [e, ← HY.out]; exact HH.out
          · exact HK.out.2.2 j h1 (by omega)
      · have HH := Aside0.mk hn
        clear hn
        go_wp2_with (first | (go_at_call 31; (refine (named_calls _ y b name HN2.out).mono ?_); rintro e w4 ⟨rfl, hB4⟩; rw [HH.out]; have HB4 := Aside0.mk hB4; clear hB4))
        go_ret
        exact ⟨k, rfl, .inr ⟨hk0, hlt, by rw [← HY.out]; exact HH.out, HK.out.2.2⟩, HB.out.trans (St.below_mono HB4.out HB.out.size)⟩
    · have d0 : decide (k < (l.length : Int)) = false := decide_eq_false hlt
      go_wp2_with fail
      go_ret
      exact ⟨-1, rfl, .inl ⟨rfl, fun j h1 h2 => HK.out.2.2 j h1 (by omega)⟩, HB.out⟩
end Go.Proofs.Ytbelijoggbblgaa.Ex
