import Derived.Test.YtefihkcmlmapoaaMem12
namespace Go.Proofs.Ytefihkcmlmapoaa.Mem
open Go.RowKit Go.Proofs.YtefihkcmlmapoaaW.PrintWords Go.Proofs.YtefihkcmlmapoaaW.PrintLast Go.Proofs.YtefihkcmlmapoaaW.PrintMore Go.Proofs.Ytefihkcmlmapoaa.PMemHalves
set_option linter.unusedVariables false
set_option linter.unusedSimpArgs false
set_option maxHeartbeats 1000000 in
theorem rthere {w : World} {g n c : Nat} {A : Option Addr} {most : Int} (h : Row w g 42 #[.slice A n c, .int .i64 most]) (hn : n ≤ 4096) (at_ m : Int) (a0 : 0 ≤ at_) (a1 : at_ < 18446744073709551616) (m0 : 0 ≤ m) :
    Calls Try.prog 29 #[.pointer (some ⟨g, 0, none⟩), .int .u64 at_, .int .i64 m] w fun e w' => e = .returned (.bool (decide (at_ + m ≤ n))) ∧ Drawn0 w w' := by
  have c0 : w.cell? ⟨g, 0, none⟩ = some (.slice A n c) := h.cell 0
  by_cases h1 : at_ ≤ 4096
  · have d1 : decide (at_ ≤ 4096) = true := decide_eq_true h1
    by_cases h2 : m ≤ 4096
    · have d2 : decide (m ≤ 4096) = true := decide_eq_true h2
      have ea : IntKind.i64.wrap at_ = at_ := by rw [IntKind.wrap_i64]; omega
      go_enter Try.func29, Try.ntmps29
      go_wp2
      go_ret
      exact ⟨rfl, Drawn0.refl _⟩
    · have d2 : decide (m ≤ 4096) = false := decide_eq_false h2
      have hf : decide (at_ + m ≤ n) = false := decide_eq_false (by omega)
      rw [hf]
      go_enter Try.func29, Try.ntmps29
      go_wp2
      go_ret
      exact ⟨rfl, Drawn0.refl _⟩
  · have d1 : decide (at_ ≤ 4096) = false := decide_eq_false h1
    have hf : decide (at_ + m ≤ n) = false := decide_eq_false (by omega)
    rw [hf]
    go_enter Try.func29, Try.ntmps29
    go_wp2
    go_ret
    exact ⟨rfl, Drawn0.refl _⟩
/-- What the tests on the width say, in the walk's own spelling. -/
theorem wid_false {m : Int} (h : wid m = false) : m ≠ 1 ∧ m ≠ 2 ∧ m ≠ 4 ∧ m ≠ 8 := by
  simp only [wid, decide_eq_false_iff_not, not_or] at h
  exact ⟨h.1, h.2.1, h.2.2.1, h.2.2.2⟩
set_option maxHeartbeats 2000000 in
theorem rstore_non {w : World} {base g n c : Nat} {A : Option Addr} {most : Int} {xs : List Int} (h : Mm w base 42 g A n c xs most) (hlen : n ≤ 4096) (at_ m v : Int) (a0 : 0 ≤ at_) (a1 : at_ < 18446744073709551616) (hin : inM n at_ m = false) :
    Calls Try.prog 26 #[.pointer (some ⟨g, 0, none⟩), .int .u64 at_, .int .i64 m, .int .u64 v] w fun e w' => e = .returned (.bool false) ∧ Drawn0 w w' := by
  cases hwd : wid m with
  | false =>
    obtain ⟨h1, h2, h4, h8⟩ := wid_false hwd
    have b1 : (m != 1) = true := by rw [bne_iff_ne]; exact h1
    have b2 : (m != 2) = true := by rw [bne_iff_ne]; exact h2
    have b4 : (m != 4) = true := by rw [bne_iff_ne]; exact h4
    have b8 : (m != 8) = true := by rw [bne_iff_ne]; exact h8
    clear hin hwd h h1 h2 h4 h8
    go_enter Try.func26, Try.ntmps26
    go_wp2
    go_ret
    exact ⟨rfl, Drawn0.refl _⟩
  | true =>
    have hm := wid_cases hwd
    have hf : ¬ at_ + m ≤ n := by simpa [inM, hwd] using hin
    have hth := rthere h.row hlen at_ m a0 a1 (by omega)
    rw [decide_eq_false hf] at hth
    have HT := Aside0.mk hth
    clear hin hwd h hf hth
    rcases hm with rfl | rfl | rfl | rfl
    all_goals
      go_enter Try.func26, Try.ntmps26
      go_wp2_with (go_at_call 29; (refine HT.out.mono ?_); rintro e w' ⟨rfl, ⟨nd2, rfl⟩⟩)
      go_ret
      exact ⟨rfl, ⟨_, rfl⟩⟩
set_option maxHeartbeats 2000000 in
theorem rload_non {w : World} {base g n c : Nat} {A : Option Addr} {most : Int} {xs : List Int} (h : Mm w base 42 g A n c xs most) (hlen : n ≤ 4096) (at_ m : Int) (a0 : 0 ≤ at_) (a1 : at_ < 18446744073709551616) (hin : inM n at_ m = false) :
    Calls Try.prog 25 #[.pointer (some ⟨g, 0, none⟩), .int .u64 at_, .int .i64 m] w fun e w' => e = .returned (.tuple #[.int .u64 0, .bool false]) ∧ Drawn0 w w' := by
  cases hwd : wid m with
  | false =>
    obtain ⟨h1, h2, h4, h8⟩ := wid_false hwd
    have b1 : (m != 1) = true := by rw [bne_iff_ne]; exact h1
    have b2 : (m != 2) = true := by rw [bne_iff_ne]; exact h2
    have b4 : (m != 4) = true := by rw [bne_iff_ne]; exact h4
    have b8 : (m != 8) = true := by rw [bne_iff_ne]; exact h8
    clear hin hwd h h1 h2 h4 h8
    go_enter Try.func25, Try.ntmps25
    go_wp2
    go_ret2
    exact ⟨rfl, Drawn0.refl _⟩
  | true =>
    have hm := wid_cases hwd
    have hf : ¬ at_ + m ≤ n := by simpa [inM, hwd] using hin
    have hth := rthere h.row hlen at_ m a0 a1 (by omega)
    rw [decide_eq_false hf] at hth
    have HT := Aside0.mk hth
    clear hin hwd h hf hth
    rcases hm with rfl | rfl | rfl | rfl
    all_goals
      go_enter Try.func25, Try.ntmps25
      go_wp2_with (go_at_call 29; (refine HT.out.mono ?_); rintro e w' ⟨rfl, ⟨nd2, rfl⟩⟩)
      go_ret2
      exact ⟨rfl, ⟨_, rfl⟩⟩
theorem step_le (v : Int) (v0 : 0 ≤ v) (j : Nat) : 0 ≤ v / 2 ^ (8 * j) ∧ v / 2 ^ (8 * j) ≤ v := ⟨Int.ediv_nonneg v0 (Int.pow_nonneg (by decide)), Int.ediv_le_self _ v0⟩
theorem step_div (v : Int) (j : Nat) : v / 2 ^ (8 * j) / 256 = v / 2 ^ (8 * (j + 1)) := by
  rw [Nat.mul_succ, Int.pow_add, ← Int.ediv_ediv_of_nonneg (Int.pow_nonneg (by decide))]; rfl
set_option maxHeartbeats 1000000 in
theorem rstore_1 {w : World} {base g b n c : Nat} {most : Int} {xs : List Int} (h : Mm w base 42 g (some ⟨b, 0, none⟩) n c xs most) (at_ : Nat) (v : Int) (v0 : 0 ≤ v) (v1 : v < 18446744073709551616) (hin : at_ + 1 ≤ n) (hlen : n ≤ 4096) :
    Calls Try.prog 26 #[.pointer (some ⟨g, 0, none⟩), .int .u64 at_, .int .i64 1, .int .u64 v] w fun e w' => e = .returned (.bool true) ∧
      Mm w' base 42 g (some ⟨b, 0, none⟩) n c (put xs at_ v 1) most ∧ w.grownBy w' (some b) := by
  have hth := rthere h.row hlen at_ 1 (by omega) (by omega) (by omega)
  rw [decide_eq_true (show (at_ : Int) + 1 ≤ n by omega)] at hth
  have HT := Aside0.mk hth
  have ea : IntKind.i64.wrap (at_ : Int) = (at_ : Int) := by rw [IntKind.wrap_i64]; omega
  have hH := Aside0.mk h
  clear h hth
  have HP := Aside0.mk (fun j : Nat => step_le v v0 j)
  go_enter Try.func26, Try.ntmps26
  go_wp2_with (go_at_call 29; (refine HT.out.mono ?_); rintro e w' ⟨rfl, ⟨nd2, rfl⟩⟩)
  go_loopg [3, 9] 1 (fun kq v3 v9 w' => ∃ (j : Nat) (u : Int), v3 = .int .u64 u ∧ v9 = .int .i64 j ∧ j + kq = 1 ∧ Aside0 (u = v / 2 ^ (8 * j)) ∧ Mm w' base 42 g (some ⟨b, 0, none⟩) n c (put xs at_ v j) most ∧ w.grownBy w' (some b))
  case atStart => exact ⟨0, v, rfl, rfl, by omega, ⟨by simp⟩, hH.out.drewN _, grown_drewN (World.grownBy.refl _ _) _⟩
  case round =>
    obtain ⟨j, u, rfl, rfl, hj, HU, hr, hB⟩ := hrel
    have hu0 : 0 ≤ u := by rw [HU.out]; exact (HP.out j).1
    have hu1 : u < 18446744073709551616 := by have := (HP.out j).2; rw [← HU.out] at this; omega
    cases gk with
    | zero =>
      obtain rfl : j = 1 := by omega
      go_wp2
      go_ret
      exact ⟨rfl, hr, hB⟩
    | succ k2 =>
      have hlt : ((j : Int) < 1) = True := eq_true (by omega)
      have hi : at_ + j < n := by omega
      have c0 : wr.cell? ⟨g, 0, none⟩ = some (.slice (some ⟨b, 0, none⟩) n c) := hr.row.cell 0
      have hc := hr.cell (at_ + j) (by omega)
      have hf := hr.frozen (at_ + j)
      have hne := hr.ne (by decide)
      have HR := Aside0.mk hr
      have HB := Aside0.mk hB
      have HNE := Aside0.mk hne
      clear hr hB hne
      go_wp2
      have hr3 : Mm (wr.setCell ⟨b, at_ + j, none⟩ (.int .u8 (u % 256))) base 42 g (some ⟨b, 0, none⟩) n c (put xs at_ v (j + 1)) most := by
        have q := HR.out.set (by decide) (at_ + j) (u % 256) (by omega)
        rw [put, ← HU.out]; exact q
      go_roundg k2
      case measure => omega
      case rel => exact ⟨j + 1, u / 256, by simp, by simp, by omega, ⟨by rw [HU.out]; exact step_div v j⟩, hr3, grown_set HB.out _ _⟩
set_option maxHeartbeats 1000000 in
theorem rstore_2 {w : World} {base g b n c : Nat} {most : Int} {xs : List Int} (h : Mm w base 42 g (some ⟨b, 0, none⟩) n c xs most) (at_ : Nat) (v : Int) (v0 : 0 ≤ v) (v1 : v < 18446744073709551616) (hin : at_ + 2 ≤ n) (hlen : n ≤ 4096) :
    Calls Try.prog 26 #[.pointer (some ⟨g, 0, none⟩), .int .u64 at_, .int .i64 2, .int .u64 v] w fun e w' => e = .returned (.bool true) ∧
      Mm w' base 42 g (some ⟨b, 0, none⟩) n c (put xs at_ v 2) most ∧ w.grownBy w' (some b) := by
  have hth := rthere h.row hlen at_ 2 (by omega) (by omega) (by omega)
  rw [decide_eq_true (show (at_ : Int) + 2 ≤ n by omega)] at hth
  have HT := Aside0.mk hth
  have ea : IntKind.i64.wrap (at_ : Int) = (at_ : Int) := by rw [IntKind.wrap_i64]; omega
  have hH := Aside0.mk h
  clear h hth
  have HP := Aside0.mk (fun j : Nat => step_le v v0 j)
  go_enter Try.func26, Try.ntmps26
  go_wp2_with (go_at_call 29; (refine HT.out.mono ?_); rintro e w' ⟨rfl, ⟨nd2, rfl⟩⟩)
  go_loopg [3, 9] 2 (fun kq v3 v9 w' => ∃ (j : Nat) (u : Int), v3 = .int .u64 u ∧ v9 = .int .i64 j ∧ j + kq = 2 ∧ Aside0 (u = v / 2 ^ (8 * j)) ∧ Mm w' base 42 g (some ⟨b, 0, none⟩) n c (put xs at_ v j) most ∧ w.grownBy w' (some b))
  case atStart => exact ⟨0, v, rfl, rfl, by omega, ⟨by simp⟩, hH.out.drewN _, grown_drewN (World.grownBy.refl _ _) _⟩
  case round =>
    obtain ⟨j, u, rfl, rfl, hj, HU, hr, hB⟩ := hrel
    have hu0 : 0 ≤ u := by rw [HU.out]; exact (HP.out j).1
    have hu1 : u < 18446744073709551616 := by have := (HP.out j).2; rw [← HU.out] at this; omega
    cases gk with
    | zero =>
      obtain rfl : j = 2 := by omega
      go_wp2
      go_ret
      exact ⟨rfl, hr, hB⟩
    | succ k2 =>
      have hlt : ((j : Int) < 2) = True := eq_true (by omega)
      have hi : at_ + j < n := by omega
      have c0 : wr.cell? ⟨g, 0, none⟩ = some (.slice (some ⟨b, 0, none⟩) n c) := hr.row.cell 0
      have hc := hr.cell (at_ + j) (by omega)
      have hf := hr.frozen (at_ + j)
      have hne := hr.ne (by decide)
      have HR := Aside0.mk hr
      have HB := Aside0.mk hB
      have HNE := Aside0.mk hne
      clear hr hB hne
      go_wp2
      have hr3 : Mm (wr.setCell ⟨b, at_ + j, none⟩ (.int .u8 (u % 256))) base 42 g (some ⟨b, 0, none⟩) n c (put xs at_ v (j + 1)) most := by
        have q := HR.out.set (by decide) (at_ + j) (u % 256) (by omega)
        rw [put, ← HU.out]; exact q
      go_roundg k2
      case measure => omega
      case rel => exact ⟨j + 1, u / 256, by simp, by simp, by omega, ⟨by rw [HU.out]; exact step_div v j⟩, hr3, grown_set HB.out _ _⟩
set_option maxHeartbeats 1000000 in
theorem rstore_4 {w : World} {base g b n c : Nat} {most : Int} {xs : List Int} (h : Mm w base 42 g (some ⟨b, 0, none⟩) n c xs most) (at_ : Nat) (v : Int) (v0 : 0 ≤ v) (v1 : v < 18446744073709551616) (hin : at_ + 4 ≤ n) (hlen : n ≤ 4096) :
    Calls Try.prog 26 #[.pointer (some ⟨g, 0, none⟩), .int .u64 at_, .int .i64 4, .int .u64 v] w fun e w' => e = .returned (.bool true) ∧
      Mm w' base 42 g (some ⟨b, 0, none⟩) n c (put xs at_ v 4) most ∧ w.grownBy w' (some b) := by
  have hth := rthere h.row hlen at_ 4 (by omega) (by omega) (by omega)
  rw [decide_eq_true (show (at_ : Int) + 4 ≤ n by omega)] at hth
  have HT := Aside0.mk hth
  have ea : IntKind.i64.wrap (at_ : Int) = (at_ : Int) := by rw [IntKind.wrap_i64]; omega
  have hH := Aside0.mk h
  clear h hth
  have HP := Aside0.mk (fun j : Nat => step_le v v0 j)
  go_enter Try.func26, Try.ntmps26
  go_wp2_with (go_at_call 29; (refine HT.out.mono ?_); rintro e w' ⟨rfl, ⟨nd2, rfl⟩⟩)
  go_loopg [3, 9] 4 (fun kq v3 v9 w' => ∃ (j : Nat) (u : Int), v3 = .int .u64 u ∧ v9 = .int .i64 j ∧ j + kq = 4 ∧ Aside0 (u = v / 2 ^ (8 * j)) ∧ Mm w' base 42 g (some ⟨b, 0, none⟩) n c (put xs at_ v j) most ∧ w.grownBy w' (some b))
  case atStart => exact ⟨0, v, rfl, rfl, by omega, ⟨by simp⟩, hH.out.drewN _, grown_drewN (World.grownBy.refl _ _) _⟩
  case round =>
    obtain ⟨j, u, rfl, rfl, hj, HU, hr, hB⟩ := hrel
    have hu0 : 0 ≤ u := by rw [HU.out]; exact (HP.out j).1
    have hu1 : u < 18446744073709551616 := by have := (HP.out j).2; rw [← HU.out] at this; omega
    cases gk with
    | zero =>
      obtain rfl : j = 4 := by omega
      go_wp2
      go_ret
      exact ⟨rfl, hr, hB⟩
    | succ k2 =>
      have hlt : ((j : Int) < 4) = True := eq_true (by omega)
      have hi : at_ + j < n := by omega
      have c0 : wr.cell? ⟨g, 0, none⟩ = some (.slice (some ⟨b, 0, none⟩) n c) := hr.row.cell 0
      have hc := hr.cell (at_ + j) (by omega)
      have hf := hr.frozen (at_ + j)
      have hne := hr.ne (by decide)
      have HR := Aside0.mk hr
      have HB := Aside0.mk hB
      have HNE := Aside0.mk hne
      clear hr hB hne
      go_wp2
      have hr3 : Mm (wr.setCell ⟨b, at_ + j, none⟩ (.int .u8 (u % 256))) base 42 g (some ⟨b, 0, none⟩) n c (put xs at_ v (j + 1)) most := by
        have q := HR.out.set (by decide) (at_ + j) (u % 256) (by omega)
        rw [put, ← HU.out]; exact q
      go_roundg k2
      case measure => omega
      case rel => exact ⟨j + 1, u / 256, by simp, by simp, by omega, ⟨by rw [HU.out]; exact step_div v j⟩, hr3, grown_set HB.out _ _⟩
set_option maxHeartbeats 1000000 in
theorem rstore_8 {w : World} {base g b n c : Nat} {most : Int} {xs : List Int} (h : Mm w base 42 g (some ⟨b, 0, none⟩) n c xs most) (at_ : Nat) (v : Int) (v0 : 0 ≤ v) (v1 : v < 18446744073709551616) (hin : at_ + 8 ≤ n) (hlen : n ≤ 4096) :
    Calls Try.prog 26 #[.pointer (some ⟨g, 0, none⟩), .int .u64 at_, .int .i64 8, .int .u64 v] w fun e w' => e = .returned (.bool true) ∧
      Mm w' base 42 g (some ⟨b, 0, none⟩) n c (put xs at_ v 8) most ∧ w.grownBy w' (some b) := by
  have hth := rthere h.row hlen at_ 8 (by omega) (by omega) (by omega)
  rw [decide_eq_true (show (at_ : Int) + 8 ≤ n by omega)] at hth
  have HT := Aside0.mk hth
  have ea : IntKind.i64.wrap (at_ : Int) = (at_ : Int) := by rw [IntKind.wrap_i64]; omega
  have hH := Aside0.mk h
  clear h hth
  have HP := Aside0.mk (fun j : Nat => step_le v v0 j)
  go_enter Try.func26, Try.ntmps26
  go_wp2_with (go_at_call 29; (refine HT.out.mono ?_); rintro e w' ⟨rfl, ⟨nd2, rfl⟩⟩)
  go_loopg [3, 9] 8 (fun kq v3 v9 w' => ∃ (j : Nat) (u : Int), v3 = .int .u64 u ∧ v9 = .int .i64 j ∧ j + kq = 8 ∧ Aside0 (u = v / 2 ^ (8 * j)) ∧ Mm w' base 42 g (some ⟨b, 0, none⟩) n c (put xs at_ v j) most ∧ w.grownBy w' (some b))
  case atStart => exact ⟨0, v, rfl, rfl, by omega, ⟨by simp⟩, hH.out.drewN _, grown_drewN (World.grownBy.refl _ _) _⟩
  case round =>
    obtain ⟨j, u, rfl, rfl, hj, HU, hr, hB⟩ := hrel
    have hu0 : 0 ≤ u := by rw [HU.out]; exact (HP.out j).1
    have hu1 : u < 18446744073709551616 := by have := (HP.out j).2; rw [← HU.out] at this; omega
    cases gk with
    | zero =>
      obtain rfl : j = 8 := by omega
      go_wp2
      go_ret
      exact ⟨rfl, hr, hB⟩
    | succ k2 =>
      have hlt : ((j : Int) < 8) = True := eq_true (by omega)
      have hi : at_ + j < n := by omega
      have c0 : wr.cell? ⟨g, 0, none⟩ = some (.slice (some ⟨b, 0, none⟩) n c) := hr.row.cell 0
      have hc := hr.cell (at_ + j) (by omega)
      have hf := hr.frozen (at_ + j)
      have hne := hr.ne (by decide)
      have HR := Aside0.mk hr
      have HB := Aside0.mk hB
      have HNE := Aside0.mk hne
      clear hr hB hne
      go_wp2
      have hr3 : Mm (wr.setCell ⟨b, at_ + j, none⟩ (.int .u8 (u % 256))) base 42 g (some ⟨b, 0, none⟩) n c (put xs at_ v (j + 1)) most := by
        have q := HR.out.set (by decide) (at_ + j) (u % 256) (by omega)
        rw [put, ← HU.out]; exact q
      go_roundg k2
      case measure => omega
      case rel => exact ⟨j + 1, u / 256, by simp, by simp, by omega, ⟨by rw [HU.out]; exact step_div v j⟩, hr3, grown_set HB.out _ _⟩
end Go.Proofs.Ytefihkcmlmapoaa.Mem
