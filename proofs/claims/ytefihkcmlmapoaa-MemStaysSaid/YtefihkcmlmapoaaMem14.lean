import Derived.Test.YtefihkcmlmapoaaMem13
namespace Go.Proofs.Ytefihkcmlmapoaa.Mem
open Go.RowKit Go.Proofs.YtefihkcmlmapoaaW.PrintWords Go.Proofs.YtefihkcmlmapoaaW.PrintLast Go.Proofs.YtefihkcmlmapoaaW.PrintMore Go.Proofs.Ytefihkcmlmapoaa.PMemHalves
set_option linter.unusedVariables false
set_option linter.unusedSimpArgs false
theorem get_snoc (xs : List Int) : ∀ (a j : Nat), get xs a (j + 1) = get xs a j + xs.getD (a + j) 0 * 256 ^ j
  | a, 0 => by simp [get]
  | a, j + 1 => by
    have ih := get_snoc xs (a + 1) j
    rw [get, ih, get, show a + 1 + j = a + (j + 1) by omega, Int.pow_succ, Int.mul_add, Int.add_assoc]
    congr 2
    rw [Int.mul_comm (256 : Int), Int.mul_assoc]
theorem pow_le (j : Nat) (h : j ≤ 7) : 1 ≤ (256 : Int) ^ j ∧ (256 : Int) ^ j ≤ 72057594037927936 := by
  have : ∀ i : Fin 8, 1 ≤ (256 : Int) ^ i.val ∧ (256 : Int) ^ i.val ≤ 72057594037927936 := by decide
  exact this ⟨j, by omega⟩
theorem pow_next (j : Nat) (h : j + 1 < 8) : IntKind.u64.wrap ((256 : Int) ^ j * 256) = 256 ^ (j + 1) := by
  have := pow_le (j + 1) (by omega)
  rw [← Int.pow_succ, IntKind.wrap_u64, Int.emod_eq_of_lt (by omega) (by omega)]
theorem wrap_of {z : Int} (h0 : 0 ≤ z) (h1 : z < 18446744073709551616) : IntKind.u64.wrap z = z := by rw [IntKind.wrap_u64, Int.emod_eq_of_lt h0 h1]
theorem load_step {G x : Int} {j : Nat} (g0 : 0 ≤ G) (g1 : G < 256 ^ j) (x0 : 0 ≤ x) (x1 : x < 256) (h : j ≤ 7) : 0 ≤ x * 256 ^ j ∧ x * 256 ^ j < 18446744073709551616 ∧ 0 ≤ G + x * 256 ^ j ∧ G + x * 256 ^ j < 18446744073709551616 := by
  have hp := pow_le j h
  have h0 : 0 ≤ x * 256 ^ j := Int.mul_nonneg x0 (by omega)
  have h1 : x * 256 ^ j ≤ 255 * 256 ^ j := Int.mul_le_mul_of_nonneg_right (by omega) (by omega)
  omega
set_option maxHeartbeats 1000000 in
theorem rload_1 {w : World} {base g b n c : Nat} {most : Int} {xs : List Int} (h : Mm w base 42 g (some ⟨b, 0, none⟩) n c xs most) (at_ : Nat) (hin : at_ + 1 ≤ n) (hlen : n ≤ 4096) :
    Calls Try.prog 25 #[.pointer (some ⟨g, 0, none⟩), .int .u64 at_, .int .i64 1] w fun e w' => e = .returned (.tuple #[.int .u64 (get xs at_ 1), .bool true]) ∧ Drawn0 w w' := by
  have hth := rthere h.row hlen at_ 1 (by omega) (by omega) (by omega)
  rw [decide_eq_true (show (at_ : Int) + 1 ≤ n by omega)] at hth
  have HT := Aside0.mk hth
  have ea : IntKind.i64.wrap (at_ : Int) = (at_ : Int) := by rw [IntKind.wrap_i64]; omega
  have hH := Aside0.mk h
  clear h hth
  go_enter Try.func25, Try.ntmps25
  go_wp2_with (go_at_call 29; (refine HT.out.mono ?_); rintro e w' ⟨rfl, ⟨nd2, rfl⟩⟩)
  go_loopg [8, 9, 10] 1 (fun kq v8 v9 v10 w' => ∃ (j : Nat) (q : Int), v8 = .int .u64 (get xs at_ j) ∧ v9 = .int .u64 q ∧ v10 = .int .i64 j ∧ j + kq = 1 ∧ Aside0 (j < 8 → q = 256 ^ j) ∧ Drawn0 w w')
  case atStart => exact ⟨0, 1, rfl, rfl, rfl, by omega, ⟨fun _ => by simp⟩, ⟨_, rfl⟩⟩
  case round =>
    obtain ⟨j, q, rfl, rfl, rfl, hj, HQ, ⟨nd3, rfl⟩⟩ := hrel
    cases gk with
    | zero =>
      obtain rfl : j = 1 := by omega
      go_wp2
      go_ret2
      exact ⟨rfl, ⟨_, rfl⟩⟩
    | succ k2 =>
      have hlt : ((j : Int) < 1) = True := eq_true (by omega)
      have h := hH.out
      have c0 : (w.drewN nd3).cell? ⟨g, 0, none⟩ = some (.slice (some ⟨b, 0, none⟩) n c) := h.row.cell 0
      have hc : (w.drewN nd3).cell? ⟨b, at_ + j, none⟩ = some (.int .u8 (xs.getD (at_ + j) 0)) := h.cell (at_ + j) (by omega)
      have hxr := getD_range h.rng (at_ + j)
      have hgr := get_range h.rng j at_
      have hq := pow_le j (by omega)
      have hs := get_snoc xs at_ j
      have hst := load_step hgr.1 hgr.2 hxr.1 hxr.2 (by omega)
      have HS := Aside0.mk hs
      have HG := Aside0.mk hgr
      have hqe := HQ.out (by omega)
      rw [← hqe] at hst hq hs
      obtain ⟨x, hx⟩ : ∃ x, x = xs.getD (at_ + j) 0 := ⟨_, rfl⟩
      rw [← hx] at hc hxr hst
      have e1 : IntKind.u64.wrap x = x := wrap_of (by omega) (by omega)
      have e2 : IntKind.u64.wrap (x * q) = x * q := wrap_of hst.1 hst.2.1
      have e3 : IntKind.u64.wrap (get xs at_ j + x * q) = get xs at_ j + x * q := wrap_of hst.2.2.1 hst.2.2.2
      have HX := Aside0.mk hx
      have E1 := Aside0.mk e1
      have E2 := Aside0.mk e2
      have E3 := Aside0.mk e3
      clear hst hx e1 e2 e3
      have HQE := Aside0.mk hqe
      clear h hs hgr hqe hxr hq
      go_wp2
      go_roundg k2
      case measure => omega
      case rel => exact ⟨j + 1, _, by rw [HS.out, ← HQE.out, ← HX.out, E1.out, E2.out, E3.out], rfl, by simp, by omega, ⟨fun hj8 => by rw [HQE.out]; exact pow_next j hj8⟩, ⟨_, rfl⟩⟩
set_option maxHeartbeats 1000000 in
theorem rload_2 {w : World} {base g b n c : Nat} {most : Int} {xs : List Int} (h : Mm w base 42 g (some ⟨b, 0, none⟩) n c xs most) (at_ : Nat) (hin : at_ + 2 ≤ n) (hlen : n ≤ 4096) :
    Calls Try.prog 25 #[.pointer (some ⟨g, 0, none⟩), .int .u64 at_, .int .i64 2] w fun e w' => e = .returned (.tuple #[.int .u64 (get xs at_ 2), .bool true]) ∧ Drawn0 w w' := by
  have hth := rthere h.row hlen at_ 2 (by omega) (by omega) (by omega)
  rw [decide_eq_true (show (at_ : Int) + 2 ≤ n by omega)] at hth
  have HT := Aside0.mk hth
  have ea : IntKind.i64.wrap (at_ : Int) = (at_ : Int) := by rw [IntKind.wrap_i64]; omega
  have hH := Aside0.mk h
  clear h hth
  go_enter Try.func25, Try.ntmps25
  go_wp2_with (go_at_call 29; (refine HT.out.mono ?_); rintro e w' ⟨rfl, ⟨nd2, rfl⟩⟩)
  go_loopg [8, 9, 10] 2 (fun kq v8 v9 v10 w' => ∃ (j : Nat) (q : Int), v8 = .int .u64 (get xs at_ j) ∧ v9 = .int .u64 q ∧ v10 = .int .i64 j ∧ j + kq = 2 ∧ Aside0 (j < 8 → q = 256 ^ j) ∧ Drawn0 w w')
  case atStart => exact ⟨0, 1, rfl, rfl, rfl, by omega, ⟨fun _ => by simp⟩, ⟨_, rfl⟩⟩
  case round =>
    obtain ⟨j, q, rfl, rfl, rfl, hj, HQ, ⟨nd3, rfl⟩⟩ := hrel
    cases gk with
    | zero =>
      obtain rfl : j = 2 := by omega
      go_wp2
      go_ret2
      exact ⟨rfl, ⟨_, rfl⟩⟩
    | succ k2 =>
      have hlt : ((j : Int) < 2) = True := eq_true (by omega)
      have h := hH.out
      have c0 : (w.drewN nd3).cell? ⟨g, 0, none⟩ = some (.slice (some ⟨b, 0, none⟩) n c) := h.row.cell 0
      have hc : (w.drewN nd3).cell? ⟨b, at_ + j, none⟩ = some (.int .u8 (xs.getD (at_ + j) 0)) := h.cell (at_ + j) (by omega)
      have hxr := getD_range h.rng (at_ + j)
      have hgr := get_range h.rng j at_
      have hq := pow_le j (by omega)
      have hs := get_snoc xs at_ j
      have hst := load_step hgr.1 hgr.2 hxr.1 hxr.2 (by omega)
      have HS := Aside0.mk hs
      have HG := Aside0.mk hgr
      have hqe := HQ.out (by omega)
      rw [← hqe] at hst hq hs
      obtain ⟨x, hx⟩ : ∃ x, x = xs.getD (at_ + j) 0 := ⟨_, rfl⟩
      rw [← hx] at hc hxr hst
      have e1 : IntKind.u64.wrap x = x := wrap_of (by omega) (by omega)
      have e2 : IntKind.u64.wrap (x * q) = x * q := wrap_of hst.1 hst.2.1
      have e3 : IntKind.u64.wrap (get xs at_ j + x * q) = get xs at_ j + x * q := wrap_of hst.2.2.1 hst.2.2.2
      have HX := Aside0.mk hx
      have E1 := Aside0.mk e1
      have E2 := Aside0.mk e2
      have E3 := Aside0.mk e3
      clear hst hx e1 e2 e3
      have HQE := Aside0.mk hqe
      clear h hs hgr hqe hxr hq
      go_wp2
      go_roundg k2
      case measure => omega
      case rel => exact ⟨j + 1, _, by rw [HS.out, ← HQE.out, ← HX.out, E1.out, E2.out, E3.out], rfl, by simp, by omega, ⟨fun hj8 => by rw [HQE.out]; exact pow_next j hj8⟩, ⟨_, rfl⟩⟩
set_option maxHeartbeats 1000000 in
theorem rload_4 {w : World} {base g b n c : Nat} {most : Int} {xs : List Int} (h : Mm w base 42 g (some ⟨b, 0, none⟩) n c xs most) (at_ : Nat) (hin : at_ + 4 ≤ n) (hlen : n ≤ 4096) :
    Calls Try.prog 25 #[.pointer (some ⟨g, 0, none⟩), .int .u64 at_, .int .i64 4] w fun e w' => e = .returned (.tuple #[.int .u64 (get xs at_ 4), .bool true]) ∧ Drawn0 w w' := by
  have hth := rthere h.row hlen at_ 4 (by omega) (by omega) (by omega)
  rw [decide_eq_true (show (at_ : Int) + 4 ≤ n by omega)] at hth
  have HT := Aside0.mk hth
  have ea : IntKind.i64.wrap (at_ : Int) = (at_ : Int) := by rw [IntKind.wrap_i64]; omega
  have hH := Aside0.mk h
  clear h hth
  go_enter Try.func25, Try.ntmps25
  go_wp2_with (go_at_call 29; (refine HT.out.mono ?_); rintro e w' ⟨rfl, ⟨nd2, rfl⟩⟩)
  go_loopg [8, 9, 10] 4 (fun kq v8 v9 v10 w' => ∃ (j : Nat) (q : Int), v8 = .int .u64 (get xs at_ j) ∧ v9 = .int .u64 q ∧ v10 = .int .i64 j ∧ j + kq = 4 ∧ Aside0 (j < 8 → q = 256 ^ j) ∧ Drawn0 w w')
  case atStart => exact ⟨0, 1, rfl, rfl, rfl, by omega, ⟨fun _ => by simp⟩, ⟨_, rfl⟩⟩
  case round =>
    obtain ⟨j, q, rfl, rfl, rfl, hj, HQ, ⟨nd3, rfl⟩⟩ := hrel
    cases gk with
    | zero =>
      obtain rfl : j = 4 := by omega
      go_wp2
      go_ret2
      exact ⟨rfl, ⟨_, rfl⟩⟩
    | succ k2 =>
      have hlt : ((j : Int) < 4) = True := eq_true (by omega)
      have h := hH.out
      have c0 : (w.drewN nd3).cell? ⟨g, 0, none⟩ = some (.slice (some ⟨b, 0, none⟩) n c) := h.row.cell 0
      have hc : (w.drewN nd3).cell? ⟨b, at_ + j, none⟩ = some (.int .u8 (xs.getD (at_ + j) 0)) := h.cell (at_ + j) (by omega)
      have hxr := getD_range h.rng (at_ + j)
      have hgr := get_range h.rng j at_
      have hq := pow_le j (by omega)
      have hs := get_snoc xs at_ j
      have hst := load_step hgr.1 hgr.2 hxr.1 hxr.2 (by omega)
      have HS := Aside0.mk hs
      have HG := Aside0.mk hgr
      have hqe := HQ.out (by omega)
      rw [← hqe] at hst hq hs
      obtain ⟨x, hx⟩ : ∃ x, x = xs.getD (at_ + j) 0 := ⟨_, rfl⟩
      rw [← hx] at hc hxr hst
      have e1 : IntKind.u64.wrap x = x := wrap_of (by omega) (by omega)
      have e2 : IntKind.u64.wrap (x * q) = x * q := wrap_of hst.1 hst.2.1
      have e3 : IntKind.u64.wrap (get xs at_ j + x * q) = get xs at_ j + x * q := wrap_of hst.2.2.1 hst.2.2.2
      have HX := Aside0.mk hx
      have E1 := Aside0.mk e1
      have E2 := Aside0.mk e2
      have E3 := Aside0.mk e3
      clear hst hx e1 e2 e3
      have HQE := Aside0.mk hqe
      clear h hs hgr hqe hxr hq
      go_wp2
      go_roundg k2
      case measure => omega
      case rel => exact ⟨j + 1, _, by rw [HS.out, ← HQE.out, ← HX.out, E1.out, E2.out, E3.out], rfl, by simp, by omega, ⟨fun hj8 => by rw [HQE.out]; exact pow_next j hj8⟩, ⟨_, rfl⟩⟩
set_option maxHeartbeats 1000000 in
theorem rload_8 {w : World} {base g b n c : Nat} {most : Int} {xs : List Int} (h : Mm w base 42 g (some ⟨b, 0, none⟩) n c xs most) (at_ : Nat) (hin : at_ + 8 ≤ n) (hlen : n ≤ 4096) :
    Calls Try.prog 25 #[.pointer (some ⟨g, 0, none⟩), .int .u64 at_, .int .i64 8] w fun e w' => e = .returned (.tuple #[.int .u64 (get xs at_ 8), .bool true]) ∧ Drawn0 w w' := by
  have hth := rthere h.row hlen at_ 8 (by omega) (by omega) (by omega)
  rw [decide_eq_true (show (at_ : Int) + 8 ≤ n by omega)] at hth
  have HT := Aside0.mk hth
  have ea : IntKind.i64.wrap (at_ : Int) = (at_ : Int) := by rw [IntKind.wrap_i64]; omega
  have hH := Aside0.mk h
  clear h hth
  go_enter Try.func25, Try.ntmps25
  go_wp2_with (go_at_call 29; (refine HT.out.mono ?_); rintro e w' ⟨rfl, ⟨nd2, rfl⟩⟩)
  go_loopg [8, 9, 10] 8 (fun kq v8 v9 v10 w' => ∃ (j : Nat) (q : Int), v8 = .int .u64 (get xs at_ j) ∧ v9 = .int .u64 q ∧ v10 = .int .i64 j ∧ j + kq = 8 ∧ Aside0 (j < 8 → q = 256 ^ j) ∧ Drawn0 w w')
  case atStart => exact ⟨0, 1, rfl, rfl, rfl, by omega, ⟨fun _ => by simp⟩, ⟨_, rfl⟩⟩
  case round =>
    obtain ⟨j, q, rfl, rfl, rfl, hj, HQ, ⟨nd3, rfl⟩⟩ := hrel
    cases gk with
    | zero =>
      obtain rfl : j = 8 := by omega
      go_wp2
      go_ret2
      exact ⟨rfl, ⟨_, rfl⟩⟩
    | succ k2 =>
      have hlt : ((j : Int) < 8) = True := eq_true (by omega)
      have h := hH.out
      have c0 : (w.drewN nd3).cell? ⟨g, 0, none⟩ = some (.slice (some ⟨b, 0, none⟩) n c) := h.row.cell 0
      have hc : (w.drewN nd3).cell? ⟨b, at_ + j, none⟩ = some (.int .u8 (xs.getD (at_ + j) 0)) := h.cell (at_ + j) (by omega)
      have hxr := getD_range h.rng (at_ + j)
      have hgr := get_range h.rng j at_
      have hq := pow_le j (by omega)
      have hs := get_snoc xs at_ j
      have hst := load_step hgr.1 hgr.2 hxr.1 hxr.2 (by omega)
      have HS := Aside0.mk hs
      have HG := Aside0.mk hgr
      have hqe := HQ.out (by omega)
      rw [← hqe] at hst hq hs
      obtain ⟨x, hx⟩ : ∃ x, x = xs.getD (at_ + j) 0 := ⟨_, rfl⟩
      rw [← hx] at hc hxr hst
      have e1 : IntKind.u64.wrap x = x := wrap_of (by omega) (by omega)
      have e2 : IntKind.u64.wrap (x * q) = x * q := wrap_of hst.1 hst.2.1
      have e3 : IntKind.u64.wrap (get xs at_ j + x * q) = get xs at_ j + x * q := wrap_of hst.2.2.1 hst.2.2.2
      have HX := Aside0.mk hx
      have E1 := Aside0.mk e1
      have E2 := Aside0.mk e2
      have E3 := Aside0.mk e3
      clear hst hx e1 e2 e3
      have HQE := Aside0.mk hqe
      clear h hs hgr hqe hxr hq
      go_wp2
      go_roundg k2
      case measure => omega
      case rel => exact ⟨j + 1, _, by rw [HS.out, ← HQE.out, ← HX.out, E1.out, E2.out, E3.out], rfl, by simp, by omega, ⟨fun hj8 => by rw [HQE.out]; exact pow_next j hj8⟩, ⟨_, rfl⟩⟩
/-- The model's Store and Load, whatever is asked. -/
theorem rstore_all {w : World} {base g n c : Nat} {A : Option Addr} {most : Int} {xs : List Int} (h : Mm w base 42 g A n c xs most) (hlen : n ≤ 4096) (at_ m v : Int) (a0 : 0 ≤ at_) (a1 : at_ < 18446744073709551616) (v0 : 0 ≤ v) (v1 : v < 18446744073709551616) :
    Calls Try.prog 26 #[.pointer (some ⟨g, 0, none⟩), .int .u64 at_, .int .i64 m, .int .u64 v] w fun e w' => e = .returned (.bool (inM n at_ m)) ∧ Mm w' base 42 g A n c (putI xs at_ m v) most ∧ w.grownBy w' (blk A) := by
  cases hin : inM n at_ m with
  | false =>
    refine (rstore_non h hlen at_ m v a0 a1 hin).mono fun e w' ⟨he, hD⟩ => ⟨he, ?_, grown_of_drawn hD _⟩
    obtain ⟨k, rfl⟩ := hD
    have hp : putI xs at_ m v = xs := by rw [putI, h.len, hin, if_neg (by decide)]
    rw [hp]; exact h.drewN k
  | true =>
    obtain ⟨hm, hle⟩ := inM_true hin
    obtain ⟨a, rfl⟩ := Int.eq_ofNat_of_zero_le a0
    obtain ⟨b, rfl, hb, hgb⟩ := h.ptr (by omega) (by decide)
    have hp : putI xs (a : Int) m v = put xs a v m.toNat := by rw [putI, h.len, hin, if_pos rfl]; rfl
    rw [hp]
    rcases hm with rfl | rfl | rfl | rfl
    · exact rstore_1 h a v v0 v1 (by omega) hlen
    · exact rstore_2 h a v v0 v1 (by omega) hlen
    · exact rstore_4 h a v v0 v1 (by omega) hlen
    · exact rstore_8 h a v v0 v1 (by omega) hlen
theorem rload_all {w : World} {base g n c : Nat} {A : Option Addr} {most : Int} {xs : List Int} (h : Mm w base 42 g A n c xs most) (hlen : n ≤ 4096) (at_ m : Int) (a0 : 0 ≤ at_) (a1 : at_ < 18446744073709551616) :
    Calls Try.prog 25 #[.pointer (some ⟨g, 0, none⟩), .int .u64 at_, .int .i64 m] w fun e w' => e = .returned (.tuple #[.int .u64 (getI xs at_ m), .bool (inM n at_ m)]) ∧ Drawn0 w w' := by
  cases hin : inM n at_ m with
  | false =>
    have hp : getI xs at_ m = 0 := by rw [getI, h.len, hin, if_neg (by decide)]
    rw [hp]
    exact rload_non h hlen at_ m a0 a1 hin
  | true =>
    obtain ⟨hm, hle⟩ := inM_true hin
    obtain ⟨a, rfl⟩ := Int.eq_ofNat_of_zero_le a0
    obtain ⟨b, rfl, hb, hgb⟩ := h.ptr (by omega) (by decide)
    have hp : getI xs (a : Int) m = get xs a m.toNat := by rw [getI, h.len, hin, if_pos rfl]; rfl
    rw [hp]
    rcases hm with rfl | rfl | rfl | rfl
    · exact rload_1 h a (by omega) hlen
    · exact rload_2 h a (by omega) hlen
    · exact rload_4 h a (by omega) hlen
    · exact rload_8 h a (by omega) hlen
end Go.Proofs.Ytefihkcmlmapoaa.Mem
