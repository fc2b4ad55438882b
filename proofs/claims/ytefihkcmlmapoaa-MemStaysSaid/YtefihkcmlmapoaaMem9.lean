import Derived.Test.YtefihkcmlmapoaaMem8
namespace Go.Proofs.Ytefihkcmlmapoaa.Mem
open Go.RowKit Go.Proofs.YtefihkcmlmapoaaW.PrintWords Go.Proofs.YtefihkcmlmapoaaW.PrintLast Go.Proofs.YtefihkcmlmapoaaW.PrintMore Go.Proofs.Ytefihkcmlmapoaa.PMemHalves
set_option linter.unusedVariables false
set_option linter.unusedSimpArgs false
theorem there_mm {w : World} {g n c : Nat} {A : Option Addr} {most : Int} (h : Row w g 55 #[.slice A n c, .int .i64 most]) (hn : n ≤ 4096) (at_ m : Int) (a0 : 0 ≤ at_) (a1 : at_ < 18446744073709551616) (m0 : 0 ≤ m) (m1 : m ≤ 4294967296) (k : Nat) :
    Calls Try.prog 22 #[.pointer (some ⟨g, 0, none⟩), .int .u64 at_, .int .i64 m] (w.drewN k) fun e w' => e = .returned (.bool (decide (at_ + m ≤ n))) ∧ Drawn0 (w.drewN k) w' := by
  have ht : (decide (at_ ≤ IntKind.u64.wrap (n : Int)) && decide (IntKind.u64.wrap m ≤ IntKind.u64.wrap (IntKind.u64.wrap (n : Int) - at_))) = decide (at_ + m ≤ n) := by
    rw [Bool.eq_iff_iff]
    simp only [IntKind.wrap_u64, Bool.and_eq_true, decide_eq_true_eq]
    omega
  have h := there_calls (w := w.drewN k) (g := g) (n := n) (c := c) h at_ m
  rw [ht] at h
  exact h
/-- May so many bytes be one number's? -/
def wid (m : Int) : Bool := decide (m = 1 ∨ m = 2 ∨ m = 4 ∨ m = 8)
theorem width_f (m : Int) : mem_width.f m = some (wid m) := by
  unfold mem_width.f wid
  by_cases h1 : m = 1 <;> by_cases h2 : m = 2 <;> by_cases h4 : m = 4 <;> by_cases h8 : m = 8 <;> simp [h1, h2, h4, h8]
def inM (n : Nat) (a m : Int) : Bool := wid m && decide (a + m ≤ n)
def putI (xs : List Int) (a m v : Int) : List Int := if inM xs.length a m = true then put xs a.toNat v m.toNat else xs
def getI (xs : List Int) (a m : Int) : Int := if inM xs.length a m = true then get xs a.toNat m.toNat else 0
theorem wid_cases {m : Int} (h : wid m = true) : m = 1 ∨ m = 2 ∨ m = 4 ∨ m = 8 := of_decide_eq_true h
set_option maxHeartbeats 1000000 in
theorem store_in {w : World} {base g b n c : Nat} {most : Int} {xs : List Int} (h : Mm w base 55 g (some ⟨b, 0, none⟩) n c xs most) (at_ m : Nat) (v : Int)
    (hm : m = 1 ∨ m = 2 ∨ m = 4 ∨ m = 8) (hin : at_ + m ≤ n) (hlen : n ≤ 4096) :
    Calls Try.prog 11 #[.pointer (some ⟨g, 0, none⟩), .int .u64 at_, .int .i64 m, .int .u64 v] w fun e w' => e = .returned (.bool true) ∧
      Mm w' base 55 g (some ⟨b, 0, none⟩) n c (put xs at_ v m) most ∧ w.grownBy w' (some b) := by
  have hw : mem_width.f (m : Int) = some true := by
    rw [width_f]
    rcases hm with rfl | rfl | rfl | rfl <;> rfl
  have hth := there_mm h.row hlen at_ m (by omega) (by omega) (by omega) (by omega)
  rw [decide_eq_true (show (at_ : Int) + m ≤ n by omega)] at hth
  have hH := Aside0.mk h
  clear h
  go_enter Try.func11, Try.ntmps11
  go_wp2_with (first | (go_at_call 21; (with_reducible refine (mem_width.calls m true _ hw).mono ?_); rintro e w' ⟨rfl, ⟨nd, rfl⟩⟩) | (go_at_call 22; (refine (hth _).mono ?_); rintro e w' ⟨rfl, ⟨nd2, rfl⟩⟩))
  go_loopg [21] m (fun kq v21 w' => ∃ j : Nat, v21 = .int .i64 j ∧ j + kq = m ∧ Mm w' base 55 g (some ⟨b, 0, none⟩) n c (put xs at_ v j) most ∧ w.grownBy w' (some b))
  case atStart => exact ⟨0, rfl, by omega, hH.out.drewN _, grown_drewN (World.grownBy.refl _ _) _⟩
  case round =>
    obtain ⟨j, rfl, hj, hr, hB⟩ := hrel
    cases gk with
    | zero =>
      obtain rfl : j = m := by omega
      go_wp2
      go_ret
      exact ⟨rfl, hr, hB⟩
    | succ k2 =>
      have hlt : ((j : Int) < (m : Int)) = True := eq_true (by omega)
      have hi : at_ + j < n := by omega
      have c0 : wr.cell? ⟨g, 0, none⟩ = some (.slice (some ⟨b, 0, none⟩) n c) := hr.row.cell 0
      have hc := hr.cell (at_ + j) (by omega)
      have hf := hr.frozen (at_ + j)
      have ei : IntKind.u64.wrap ((at_ : Int) + IntKind.u64.wrap (j : Int)) = ((at_ + j : Nat) : Int) := by
        simp only [IntKind.wrap_u64]; omega
      have e8 : IntKind.i64.wrap (8 * (j : Int)) = ((8 * j : Nat) : Int) := by rw [IntKind.wrap_i64]; omega
      have hj0 : decide ((j : Int) < 0) = false := decide_eq_false (by omega)
      have HR := Aside0.mk hr
      clear hr
      go_wp2
      go_region
      go_wp2
      have hr3 : Mm (wr.setCell ⟨b, at_ + j, none⟩ (.int .u8 (v / 2 ^ (8 * j) % 256))).drew base 55 g (some ⟨b, 0, none⟩) n c (put xs at_ v (j + 1)) most :=
        (HR.out.set (by decide) (at_ + j) (v / 2 ^ (8 * j) % 256) (by omega)).drewN 1
      go_roundg k2
      case measure => omega
      case rel => exact ⟨j + 1, by simp, by omega, hr3, grown_drew (grown_set hB _ _)⟩
set_option maxHeartbeats 1000000 in
theorem load_in {w : World} {base g b n c : Nat} {most : Int} {xs : List Int} (h : Mm w base 55 g (some ⟨b, 0, none⟩) n c xs most) (at_ m : Nat)
    (hm : m = 1 ∨ m = 2 ∨ m = 4 ∨ m = 8) (hin : at_ + m ≤ n) (hlen : n ≤ 4096) :
    Calls Try.prog 12 #[.pointer (some ⟨g, 0, none⟩), .int .u64 at_, .int .i64 m] w fun e w' => e = .returned (.tuple #[.int .u64 (get xs at_ m), .bool true]) ∧ Drawn0 w w' := by
  have hw : mem_width.f (m : Int) = some true := by
    rw [width_f]
    rcases hm with rfl | rfl | rfl | rfl <;> rfl
  have hth := there_mm h.row hlen at_ m (by omega) (by omega) (by omega) (by omega)
  rw [decide_eq_true (show (at_ : Int) + m ≤ n by omega)] at hth
  have em : IntKind.i64.wrap ((m : Int) - 1) = (m : Int) - 1 := by rw [IntKind.wrap_i64]; omega
  have hH := Aside0.mk h
  clear h
  go_enter Try.func12, Try.ntmps12
  go_wp2_with (first | (go_at_call 21; (with_reducible refine (mem_width.calls m true _ hw).mono ?_); rintro e w' ⟨rfl, ⟨nd, rfl⟩⟩) | (go_at_call 22; (refine (hth _).mono ?_); rintro e w' ⟨rfl, ⟨nd2, rfl⟩⟩))
  go_loopg [8, 9] m (fun kq v8 v9 w' => v8 = .int .u64 (get xs (at_ + kq) (m - kq)) ∧ v9 = .int .i64 ((kq : Int) - 1) ∧ kq ≤ m ∧ Drawn0 w w')
  case atStart => exact ⟨by rw [Nat.sub_self]; rfl, by simp, Nat.le_refl _, ⟨_, rfl⟩⟩
  case round =>
    obtain ⟨rfl, rfl, hk, ⟨nd3, rfl⟩⟩ := hrel
    cases gk with
    | zero =>
      go_wp2
      go_ret2
      exact ⟨by simp, ⟨_, rfl⟩⟩
    | succ k2 =>
      have h := hH.out
      have c0 : (w.drewN nd3).cell? ⟨g, 0, none⟩ = some (.slice (some ⟨b, 0, none⟩) n c) := h.row.cell 0
      have hc : (w.drewN nd3).cell? ⟨b, at_ + k2, none⟩ = some (.int .u8 (xs.getD (at_ + k2) 0)) := h.cell (at_ + k2) (by omega)
      have hxr := getD_range h.rng (at_ + k2)
      have hgr := get_range h.rng (m - (k2 + 1)) (at_ + (k2 + 1))
      have hpow : (256 : Int) ^ (m - (k2 + 1)) ≤ 256 ^ 7 := by
        have : ∀ i : Fin 8, (256 : Int) ^ i.val ≤ 256 ^ 7 := by decide
        exact this ⟨m - (k2 + 1), by omega⟩
      have hor := or_byte hgr.1 (by have : (256 : Int) ^ 7 = 72057594037927936 := by decide
                                    omega) hxr.1 hxr.2
      have hget : get xs (at_ + k2) (m - k2) = xs.getD (at_ + k2) 0 + 256 * get xs (at_ + (k2 + 1)) (m - (k2 + 1)) := by
        rw [show m - k2 = (m - (k2 + 1)) + 1 from by omega, get, show at_ + k2 + 1 = at_ + (k2 + 1) from by omega]
      clear h
      obtain ⟨x, hx⟩ : ∃ x, x = xs.getD (at_ + k2) 0 := ⟨_, rfl⟩
      rw [← hx] at hc hxr hor hget
      have HX := Aside0.mk hx
      have HG := Aside0.mk hget
      have HO := Aside0.mk hor
      clear hx hget hor
      go_wp2
      go_roundg k2
      case measure => omega
      case rel =>
        have hor := HO.out
        have hget := HG.out
        have h7 : (256 : Int) ^ 7 = 72057594037927936 := by decide
        have hG : get xs (at_ + (k2 + 1)) (m - (k2 + 1)) < 72057594037927936 := by omega
        have hG0 := hgr.1
        clear hgr hpow
        exact ⟨by rw [hget, ← hor]; congr 2 <;> simp only [IntKind.wrap_u64] <;> omega, rfl, by omega, ⟨_, rfl⟩⟩
end Go.Proofs.Ytefihkcmlmapoaa.Mem
