import Derived.Test.YtefihkcmlmapoaaMem4
namespace Go.Proofs.Ytefihkcmlmapoaa.Mem
open Go.RowKit Go.Proofs.YtefihkcmlmapoaaW.PrintWords Go.Proofs.YtefihkcmlmapoaaW.PrintLast Go.Proofs.YtefihkcmlmapoaaW.PrintMore Go.Proofs.Ytefihkcmlmapoaa.PMemHalves
set_option linter.unusedVariables false
set_option linter.unusedSimpArgs false
theorem Row.below {w w' : World} {g B : Nat} {t : TypeId} {cs : Array Value} (h : Row w g t cs) (hb : Below B w w') (hg : g < B) : Row w' g t cs := (hb.block g hg).trans h
/-- The law's own copy of the limits, behind up. -/
theorem up_lim (w : World) (cs : Array Value) : Calls Try.prog 8 #[] (w.alloc (.cells cs 23)) fun e w' => e = .returned (.bool true) ∧ Row w' w.heap.size 23 cs ∧ Below w.heap.size w w' :=
  (up_calls _).mono fun e w' ⟨he, hB⟩ => ⟨he, (Row.made w 23 cs rfl).below hB (by simp), (below_alloc (Below.refl _ _) _).trans ⟨hB.os, hB.tape, hB.output, Nat.le_trans (by simp) hB.size, fun i hi => hB.block i (by simp; omega)⟩⟩
set_option maxHeartbeats 1000000 in
theorem halves_no (w : World) (lo hi : Int) (has : Bool) (at_ v : Int) (h : grommetref15_May.f lo hi has = some false) :
    Calls Try.prog 3 #[.agg #[.int .i64 lo, .int .i64 hi, .bool has], .int .u64 at_, .int .u64 v] w fun e w' => e = .returned (.bool true) ∧ Below w.heap.size w w' := by
  go_enter Try.func3, Try.ntmps3
  go_wp2_with (first | (go_at_call 8; (refine (up_lim _ _).mono ?_); rintro e w1 ⟨rfl, hR1, hB1⟩; have q0 := hR1.cell 0; have q1 := hR1.cell 1; have q2 := hR1.cell 2; simp only [List.getElem?_toArray, List.getElem?_cons_zero, List.getElem?_cons_succ] at q0 q1 q2) | (go_at_call 9; (refine (grommetref15_May.calls lo hi has false _ h).mono ?_); rintro e w2 ⟨rfl, hB2⟩))
  go_ret
  exact ⟨rfl, below_then hB1 hB1.size hB2⟩
theorem load_at {w : World} {g b : Nat} {most : Int} {xs : List Int} (hx : ∀ x ∈ xs, 0 ≤ x ∧ x < 256) (n : Nat) (hn : xs.length = n) (hb : Row w b 5 (bytes xs)) (hg : Row w g 55 #[.slice (some ⟨b, 0, none⟩) n n, .int .i64 most]) (at_ m : Nat) (a k v : Int) (ea : a = (at_ : Int)) (ek : k = (m : Int))
    (hm : m = 1 ∨ m = 2 ∨ m = 4 ∨ m = 8) (hin : at_ + m ≤ n) (hlen : n ≤ 4096) (ev : Aside0 (get xs at_ m = v)) :
    Calls Try.prog 12 #[.pointer (some ⟨g, 0, none⟩), .int .u64 a, .int .i64 k] w fun e w' => e = .returned (.tuple #[.int .u64 v, .bool true]) ∧ Drawn0 w w' := by
  subst hn ea ek
  have h := load_calls hx hb hg at_ m hm hin hlen
  rw [ev.out] at h
  exact h
set_option maxHeartbeats 1000000 in
theorem halves_in (w : World) (lo hi : Int) (has : Bool) (at_ : Nat) (v : Int) (v0 : 0 ≤ v) (v1 : v < 18446744073709551616) (ha : at_ < 18446744073709551616) (h : grommetref15_May.f lo hi has = some true) (h0 : 0 ≤ lo) (h1 : lo ≤ 16) (h2 : has = true → lo ≤ hi ∧ hi ≤ 16) (n : Nat) (hn : (lo * 256).toNat = n) (hin : at_ + 8 ≤ n) :
    Calls Try.prog 3 #[.agg #[.int .i64 lo, .int .i64 hi, .bool has], .int .u64 at_, .int .u64 v] w fun e w' => e = .returned (.bool true) ∧ Below w.heap.size w w' := by
  have hn4 : n ≤ 4096 := by omega
  obtain ⟨xs, hxs⟩ : ∃ xs, xs = List.replicate n (0 : Int) := ⟨_, rfl⟩
  have hl : xs.length = n := by rw [hxs, List.length_replicate]
  have hx : ∀ x ∈ xs, 0 ≤ x ∧ x < 256 := by rw [hxs]; exact rep_range n
  obtain ⟨G8, G4, H4⟩ := get_put8 xs at_ v (by omega) v0 v1
  have new3 := fun (W : World) => new_any W lo hi has h0 h1 h2
  simp only [hn, ← hxs, hl] at new3
  have pl : (put xs at_ v 8).length = n := by rw [put_len, hl]
  have st : ∀ (W : World) (base g b : Nat) (most : Int), base ≤ b → Row W b 5 (bytes xs) → Row W g 55 #[.slice (some ⟨b, 0, none⟩) n n, .int .i64 most] →
      Calls Try.prog 11 #[.pointer (some ⟨g, 0, none⟩), .int .u64 at_, .int .i64 8, .int .u64 v] W fun e w' => e = .returned (.bool true) ∧
      Row w' b 5 (bytes (put xs at_ v 8)) ∧ Row w' g 55 #[.slice (some ⟨b, 0, none⟩) n n, .int .i64 most] ∧ Below base W w' := by
    intro W base g b most hbb e1 e2
    have q := store_calls (w := W) (base := base) e1 (by rw [hl]; exact e2) hbb (Nat.zero_le _) at_ 8 v (.inr (.inr (.inr rfl))) (by omega) (by omega)
    rw [hl] at q
    exact q
  have f1 := Aside0.mk G4
  have f2 := Aside0.mk H4
  have f3 := Aside0.mk G8
  have px := Aside0.mk (put_range hx at_ v 8)
  have pl2 := Aside0.mk pl
  have hnn := Aside0.mk hn4
  have hii := Aside0.mk hin
  have ew : IntKind.u64.wrap ((at_ : Int) + 4) = (at_ : Int) + 4 := by rw [IntKind.wrap_u64]; omega
  clear G8 G4 H4 hxs hl hx pl hn hn4 hin
  go_enter Try.func3, Try.ntmps3
  go_wp2_with (first | (go_at_call 8; (refine (up_lim _ _).mono ?_); rintro e w1 ⟨rfl, hR1, hB1⟩; have q0 := hR1.cell 0; have q1 := hR1.cell 1; have q2 := hR1.cell 2; simp only [List.getElem?_toArray, List.getElem?_cons_zero, List.getElem?_cons_succ] at q0 q1 q2) | (go_at_call 9; (refine (grommetref15_May.calls lo hi has true _ h).mono ?_); rintro e w2 ⟨rfl, hB2⟩; have hR2 := hR1.below hB2 hR1.lt; have hB12 := below_then hB1 hB1.size hB2; clear q0 q1 q2 hR1 hB1 hB2; have q0 := hR2.cell 0; have q1 := hR2.cell 1; have q2 := hR2.cell 2; simp only [List.getElem?_toArray, List.getElem?_cons_zero, List.getElem?_cons_succ] at q0 q1 q2) | (go_at_call 10; (refine (new3 _).mono ?_); rintro e w3 ⟨g, b, rfl, hbb, hb, hg, hB3⟩; have hB13 := below_then hB12 hB12.size hB3; have hbw : w.heap.size ≤ b := Nat.le_trans hB12.size hbb; clear q0 q1 q2 hR2) | (go_at_call 11; (refine (st _ w.heap.size g b _ hbw (by exact hb) (by exact hg)).mono ?_); rintro e w4 ⟨rfl, hb4, hg4, hB4⟩) | (go_at_call 12; (refine (load_at px.out n pl2.out (by exact hb4) (by exact hg4) at_ 4 _ _ _ rfl rfl (.inr (.inr (.inl rfl))) (by have := hii.out; omega) hnn.out f1).mono ?_); rintro e w' ⟨rfl, ⟨nd, rfl⟩⟩; clear f1) | (go_at_call 12; (refine (load_at px.out n pl2.out (by exact hb4) (by exact hg4) (at_ + 4) 4 _ _ _ (by omega) rfl (.inr (.inr (.inl rfl))) (by have := hii.out; omega) hnn.out f2).mono ?_); rintro e w' ⟨rfl, ⟨nd2, rfl⟩⟩; clear f2) | (go_at_call 12; (refine (load_at px.out n pl2.out (by exact hb4) (by exact hg4) at_ 8 _ _ _ rfl rfl (.inr (.inr (.inr rfl))) (by have := hii.out; omega) hnn.out f3).mono ?_); rintro e w' ⟨rfl, ⟨nd3, rfl⟩⟩; clear f3))
  go_ret
  exact ⟨rfl, pw_below_drewN (hB13.trans hB4) _⟩
end Go.Proofs.Ytefihkcmlmapoaa.Mem
