import Derived.Test.YtefihkcmlmapoaaMem3
namespace Go.Proofs.Ytefihkcmlmapoaa.Mem
open Go.RowKit Go.Proofs.YtefihkcmlmapoaaW.PrintWords Go.Proofs.YtefihkcmlmapoaaW.PrintLast Go.Proofs.YtefihkcmlmapoaaW.PrintMore Go.Proofs.Ytefihkcmlmapoaa.PMemHalves
set_option linter.unusedVariables false
set_option linter.unusedSimpArgs false
theorem up_val (xs : List Int) (h : xs = List.replicate 256 0) : get (put xs 254 4660 2) 254 1 = 52 := by
  subst h; decide +kernel
theorem up_one (W : World) (g b : Nat) (most : Int) (xs : List Int) (h : Aside0 (xs.length = 256 ∧ ∀ x ∈ xs, 0 ≤ x ∧ x < 256)) (h1 : Row W b 5 (bytes (put xs 254 4660 2))) (h2 : Row W g 55 #[.slice (some ⟨b, 0, none⟩) xs.length xs.length, .int .i64 most]) (hv : Aside0 (get (put xs 254 4660 2) 254 1 = 52)) :
    Calls Try.prog 12 #[.pointer (some ⟨g, 0, none⟩), .int .u64 254, .int .i64 1] W fun e w' => e = .returned (.tuple #[.int .u64 52, .bool true]) ∧ Drawn0 W w' := by
  have hl := put_len xs 254 4660 2
  have h := up_load1 W g b most (put xs 254 4660 2) (by rw [hl, h.out.1]) (put_range h.out.2 254 4660 2) h1 (by rw [hl]; exact h2)
  rw [hv.out] at h
  exact h
set_option maxHeartbeats 1000000 in
theorem up_calls (w : World) : Calls Try.prog 8 #[] w fun e w' => e = .returned (.bool true) ∧ Below w.heap.size w w' := by
  go_enter Try.func8, Try.ntmps8
  go_wp2_with (first | (go_at_call 10; (refine (up_new _).mono ?_); rintro e w1 ⟨g, b, most, xs, rfl, hbb, hl, hx, hxs, hb, hg, hB⟩; have hv0 := up_val xs hxs; have hs := Aside0.mk (And.intro hl hx); have hv := Aside0.mk hv0; clear hv0 hl hx hxs) | (go_at_call 11; (refine (up_store _ w.heap.size g b most xs hs.out.1 hbb (by exact hb) (by exact hg)).mono ?_); rintro e w2 ⟨rfl, hb2, hg2, hB2⟩) | (go_at_call 12; (refine (up_one _ g b most xs hs (by exact hb2) (by exact hg2) hv).mono ?_); rintro e w' ⟨rfl, ⟨nd, rfl⟩⟩; clear hv) | (go_at_call 12; (refine (up_load2 _ g b most xs hs.out.1 (by exact hg2)).mono ?_); rintro e w' ⟨rfl, ⟨nd2, rfl⟩⟩))
  go_ret
  exact ⟨rfl, pw_below_drewN (hB.trans hB2) _⟩

/-! ### what was put is got -/
theorem put_at (xs : List Int) (a : Nat) (v : Int) : ∀ n j, j < n → a + n ≤ xs.length → (put xs a v n).getD (a + j) 0 = v / 2 ^ (8 * j) % 256
  | 0, _, h, _ => by omega
  | n + 1, j, h, hl => by
    have hp := put_len xs a v n
    rw [put]
    by_cases hj : j = n
    · subst hj
      simp [List.getD, List.getElem?_set, hp, show a + j < xs.length by omega]
    · have ih := put_at xs a v n j (by omega) (by omega)
      rw [← ih]
      simp [List.getD, List.getElem?_set, show ¬ n = j by omega]
theorem get_put8 (xs : List Int) (a : Nat) (v : Int) (h : a + 8 ≤ xs.length) (v0 : 0 ≤ v) (v1 : v < 18446744073709551616) :
    get (put xs a v 8) a 8 = v ∧ get (put xs a v 8) a 4 = v % 4294967296 ∧ get (put xs a v 8) (a + 4) 4 = v / 4294967296 := by
  have p := fun j hj => put_at xs a v 8 j hj h
  have p0 := p 0 (by decide)
  have p1 := p 1 (by decide)
  have p2 := p 2 (by decide)
  have p3 := p 3 (by decide)
  have p4 := p 4 (by decide)
  have p5 := p 5 (by decide)
  have p6 := p 6 (by decide)
  have p7 := p 7 (by decide)
  simp only [Nat.add_zero, Nat.mul_zero, Nat.mul_one, Int.pow_zero, Int.ediv_one] at p0 p1 p2 p3 p4 p5 p6 p7
  simp only [get, Nat.add_assoc, Nat.reduceAdd, p0, p1, p2, p3, p4, p5, p6, p7, Nat.reduceMul, Int.reducePow]
  clear p p0 p1 p2 p3 p4 p5 p6 p7
  obtain ⟨c1, h1⟩ : ∃ c, c = v / 256 := ⟨_, rfl⟩
  obtain ⟨c2, h2⟩ : ∃ c, c = c1 / 256 := ⟨_, rfl⟩
  obtain ⟨c3, h3⟩ : ∃ c, c = c2 / 256 := ⟨_, rfl⟩
  obtain ⟨c4, h4⟩ : ∃ c, c = c3 / 256 := ⟨_, rfl⟩
  obtain ⟨c5, h5⟩ : ∃ c, c = c4 / 256 := ⟨_, rfl⟩
  obtain ⟨c6, h6⟩ : ∃ c, c = c5 / 256 := ⟨_, rfl⟩
  obtain ⟨c7, h7⟩ : ∃ c, c = c6 / 256 := ⟨_, rfl⟩
  have g2 : v / 65536 = c2 := by omega
  have g3 : v / 16777216 = c3 := by omega
  have g4 : v / 4294967296 = c4 := by omega
  have g5 : v / 1099511627776 = c5 := by rw [show (1099511627776 : Int) = 4294967296 * 256 from rfl, ← Int.ediv_ediv_of_nonneg (by decide), g4, h5]
  have g6 : v / 281474976710656 = c6 := by rw [show (281474976710656 : Int) = 1099511627776 * 256 from rfl, ← Int.ediv_ediv_of_nonneg (by decide), g5, h6]
  have g7 : v / 72057594037927936 = c7 := by rw [show (72057594037927936 : Int) = 281474976710656 * 256 from rfl, ← Int.ediv_ediv_of_nonneg (by decide), g6, h7]
  have b7 : 0 ≤ c7 ∧ c7 < 256 := by rw [← g7]; omega
  rw [g2, g3, g4, g5, g6, g7, ← h1]
  clear g2 g3 g5 g6 g7
  refine ⟨by omega, by omega, by omega⟩
end Go.Proofs.Ytefihkcmlmapoaa.Mem
