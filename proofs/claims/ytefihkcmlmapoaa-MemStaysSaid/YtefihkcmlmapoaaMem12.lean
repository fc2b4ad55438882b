import Derived.Test.YtefihkcmlmapoaaMem11
import Derived.Laws.CopyOwn
namespace Go.Proofs.Ytefihkcmlmapoaa.Mem
open Go.RowKit Go.Proofs.YtefihkcmlmapoaaW.PrintWords Go.Proofs.YtefihkcmlmapoaaW.PrintLast Go.Proofs.YtefihkcmlmapoaaW.PrintMore Go.Proofs.Ytefihkcmlmapoaa.PMemHalves
set_option linter.unusedVariables false
set_option linter.unusedSimpArgs false
theorem inM_true {n : Nat} {a m : Int} (h : inM n a m = true) : (m = 1 ∨ m = 2 ∨ m = 4 ∨ m = 8) ∧ a + m ≤ n := by
  simp only [inM, Bool.and_eq_true, decide_eq_true_eq] at h
  exact ⟨wid_cases h.1, h.2⟩
set_option maxHeartbeats 1000000 in
theorem store_non {w : World} {base g n c : Nat} {A : Option Addr} {most : Int} {xs : List Int} (h : Mm w base 55 g A n c xs most) (hlen : n ≤ 4096) (at_ m v : Int) (a0 : 0 ≤ at_) (a1 : at_ < 18446744073709551616) (hin : inM n at_ m = false) :
    Calls Try.prog 11 #[.pointer (some ⟨g, 0, none⟩), .int .u64 at_, .int .i64 m, .int .u64 v] w fun e w' => e = .returned (.bool false) ∧ Drawn0 w w' := by
  have hw := width_f m
  cases hwd : wid m with
  | false =>
    rw [hwd] at hw
    clear hin hwd h
    go_enter Try.func11, Try.ntmps11
    go_wp2_with (first | (go_at_call 21; (with_reducible refine (mem_width.calls m false _ hw).mono ?_); rintro e w' ⟨rfl, ⟨nd, rfl⟩⟩))
    go_ret
    exact ⟨rfl, ⟨_, rfl⟩⟩
  | true =>
    rw [hwd] at hw
    have hm := wid_cases hwd
    have hth := there_mm h.row hlen at_ m a0 a1 (by omega) (by omega)
    have hf : ¬ at_ + m ≤ n := by simpa [inM, hwd] using hin
    rw [decide_eq_false hf] at hth
    clear hin hwd h hf
    go_enter Try.func11, Try.ntmps11
    go_wp2_with (first | (go_at_call 21; (with_reducible refine (mem_width.calls m true _ hw).mono ?_); rintro e w' ⟨rfl, ⟨nd, rfl⟩⟩) | (go_at_call 22; (refine (hth _).mono ?_); rintro e w' ⟨rfl, ⟨nd2, rfl⟩⟩))
    go_ret
    exact ⟨rfl, ⟨_, rfl⟩⟩
set_option maxHeartbeats 1000000 in
theorem load_non {w : World} {base g n c : Nat} {A : Option Addr} {most : Int} {xs : List Int} (h : Mm w base 55 g A n c xs most) (hlen : n ≤ 4096) (at_ m : Int) (a0 : 0 ≤ at_) (a1 : at_ < 18446744073709551616) (hin : inM n at_ m = false) :
    Calls Try.prog 12 #[.pointer (some ⟨g, 0, none⟩), .int .u64 at_, .int .i64 m] w fun e w' => e = .returned (.tuple #[.int .u64 0, .bool false]) ∧ Drawn0 w w' := by
  have hw := width_f m
  cases hwd : wid m with
  | false =>
    rw [hwd] at hw
    clear hin hwd h
    go_enter Try.func12, Try.ntmps12
    go_wp2_with (first | (go_at_call 21; (with_reducible refine (mem_width.calls m false _ hw).mono ?_); rintro e w' ⟨rfl, ⟨nd, rfl⟩⟩))
    go_ret2
    exact ⟨rfl, ⟨_, rfl⟩⟩
  | true =>
    rw [hwd] at hw
    have hm := wid_cases hwd
    have hth := there_mm h.row hlen at_ m a0 a1 (by omega) (by omega)
    have hf : ¬ at_ + m ≤ n := by simpa [inM, hwd] using hin
    rw [decide_eq_false hf] at hth
    clear hin hwd h hf
    go_enter Try.func12, Try.ntmps12
    go_wp2_with (first | (go_at_call 21; (with_reducible refine (mem_width.calls m true _ hw).mono ?_); rintro e w' ⟨rfl, ⟨nd, rfl⟩⟩) | (go_at_call 22; (refine (hth _).mono ?_); rintro e w' ⟨rfl, ⟨nd2, rfl⟩⟩))
    go_ret2
    exact ⟨rfl, ⟨_, rfl⟩⟩
/-- Store, whatever is asked. -/
theorem store_all {w : World} {base g n c : Nat} {A : Option Addr} {most : Int} {xs : List Int} (h : Mm w base 55 g A n c xs most) (hlen : n ≤ 4096) (at_ m v : Int) (a0 : 0 ≤ at_) (a1 : at_ < 18446744073709551616) :
    Calls Try.prog 11 #[.pointer (some ⟨g, 0, none⟩), .int .u64 at_, .int .i64 m, .int .u64 v] w fun e w' => e = .returned (.bool (inM n at_ m)) ∧ Mm w' base 55 g A n c (putI xs at_ m v) most ∧ w.grownBy w' (blk A) := by
  cases hin : inM n at_ m with
  | false =>
    refine (store_non h hlen at_ m v a0 a1 hin).mono fun e w' ⟨he, hD⟩ => ⟨he, ?_, grown_of_drawn hD _⟩
    obtain ⟨k, rfl⟩ := hD
    have hp : putI xs at_ m v = xs := by rw [putI, h.len, hin, if_neg (by decide)]
    rw [hp]; exact h.drewN k
  | true =>
    obtain ⟨hm, hle⟩ := inM_true hin
    obtain ⟨a, rfl⟩ := Int.eq_ofNat_of_zero_le a0
    obtain ⟨k, rfl⟩ := Int.eq_ofNat_of_zero_le (show 0 ≤ m by omega)
    obtain ⟨b, rfl, hb, hgb⟩ := h.ptr (by omega) (by decide)
    have hp : putI xs (a : Int) (k : Int) v = put xs a v k := by rw [putI, h.len, hin, if_pos rfl]; rfl
    rw [hp]
    exact store_in h a k v (by omega) (by omega) hlen
theorem load_all {w : World} {base g n c : Nat} {A : Option Addr} {most : Int} {xs : List Int} (h : Mm w base 55 g A n c xs most) (hlen : n ≤ 4096) (at_ m : Int) (a0 : 0 ≤ at_) (a1 : at_ < 18446744073709551616) :
    Calls Try.prog 12 #[.pointer (some ⟨g, 0, none⟩), .int .u64 at_, .int .i64 m] w fun e w' => e = .returned (.tuple #[.int .u64 (getI xs at_ m), .bool (inM n at_ m)]) ∧ Drawn0 w w' := by
  cases hin : inM n at_ m with
  | false =>
    have hp : getI xs at_ m = 0 := by rw [getI, h.len, hin, if_neg (by decide)]
    rw [hp]
    exact load_non h hlen at_ m a0 a1 hin
  | true =>
    obtain ⟨hm, hle⟩ := inM_true hin
    obtain ⟨a, rfl⟩ := Int.eq_ofNat_of_zero_le a0
    obtain ⟨k, rfl⟩ := Int.eq_ofNat_of_zero_le (show 0 ≤ m by omega)
    obtain ⟨b, rfl, hb, hgb⟩ := h.ptr (by omega) (by decide)
    have hp : getI xs (a : Int) (k : Int) = get xs a k := by rw [getI, h.len, hin, if_pos rfl]; rfl
    rw [hp]
    exact load_in h a k (by omega) (by omega) hlen
/-! ### Write -/
theorem there_w {w : World} {g n c : Nat} {A : Option Addr} {most : Int} (h : Row w g 55 #[.slice A n c, .int .i64 most]) (hn : n ≤ 4096) (at_ m : Int) (a0 : 0 ≤ at_) (a1 : at_ < 18446744073709551616) (m0 : 0 ≤ m) (m1 : m ≤ 4294967296) :
    Calls Try.prog 22 #[.pointer (some ⟨g, 0, none⟩), .int .u64 at_, .int .i64 m] w fun e w' => e = .returned (.bool (decide (at_ + m ≤ n))) ∧ Drawn0 w w' := there_mm h hn at_ m a0 a1 m0 m1 0
theorem splice_map {α β : Type} (f : α → β) (xs : List α) (a : Nat) (ys : List α) : (splice xs a ys).map f = splice (xs.map f) a (ys.map f) := by
  simp [splice, List.map_take, List.map_drop]
theorem splice_take {α : Type} (cur : List α) (n a : Nat) (ys : List α) (h : a + ys.length ≤ n) : (splice cur a ys).take n = splice (cur.take n) a ys := by
  unfold splice
  rw [List.take_take, Nat.min_eq_left (by omega), List.take_append, List.take_append, List.drop_take]
  by_cases hc : a ≤ cur.length
  · rw [List.take_of_length_le (show (List.take a cur).length ≤ n by simp; omega)]
    simp only [List.length_take, Nat.min_eq_left hc]
    rw [List.take_of_length_le (show ys.length ≤ n - a by omega), show n - (a + ys.length) = n - a - ys.length by omega]
  · have e1 : List.drop (a + ys.length) cur = [] := List.drop_eq_nil_of_le (by omega)
    rw [e1, List.take_nil, List.take_nil]
    rw [List.take_of_length_le (show (List.take a cur).length ≤ n by simp; omega), List.take_of_length_le (show ys.length ≤ n - (List.take a cur).length by simp; omega)]
/-- What is read there, whoever has laid it. -/
def Src (w : World) (B : Option Addr) (ys : List Int) : Prop := 0 < ys.length → ∃ ad, B = some ad ∧ ∀ j v, (ys.map (Value.int .u8))[j]? = some v → w.cell? (ad.add j) = some v
theorem splice_rng {xs ys : List Int} (h : ∀ x ∈ xs, 0 ≤ x ∧ x < 256) (k : ∀ x ∈ ys, 0 ≤ x ∧ x < 256) (a : Nat) : ∀ x ∈ splice xs a ys, 0 ≤ x ∧ x < 256 := by
  intro x hx
  simp only [splice, List.mem_append] at hx
  rcases hx with h1 | h1 | h1
  · exact h x (List.mem_of_mem_take h1)
  · exact k x h1
  · exact h x (List.mem_of_mem_drop h1)
set_option maxHeartbeats 1000000 in
theorem write_no {w : World} {base g n c : Nat} {A : Option Addr} {most : Int} {xs : List Int} (h : Mm w base 55 g A n c xs most) (hlen : n ≤ 4096) (at_ : Int) (a0 : 0 ≤ at_) (a1 : at_ < 18446744073709551616)
    (B : Option Addr) (nb cb : Nat) (hnb : nb ≤ 65536) (hin : ¬ at_ + nb ≤ n) :
    Calls Try.prog 19 #[.pointer (some ⟨g, 0, none⟩), .int .u64 at_, .slice B nb cb] w fun e w' => e = .returned (.bool false) ∧ Drawn0 w w' := by
  have hth := there_w h.row hlen at_ nb a0 a1 (by omega) (by omega)
  rw [decide_eq_false hin] at hth
  clear h hin
  go_enter Try.func19, Try.ntmps19
  go_wp2_with (first | (go_at_call 22; (refine hth.mono ?_); rintro e w' ⟨rfl, ⟨nd2, rfl⟩⟩))
  go_ret
  exact ⟨rfl, ⟨_, rfl⟩⟩
set_option maxHeartbeats 2000000 in
theorem write_in {w : World} {base g b n c : Nat} {most : Int} {xs : List Int} (h : Mm w base 55 g (some ⟨b, 0, none⟩) n c xs most) (hlen : n ≤ 4096) (a : Nat)
    (B : Option Addr) (nb cb : Nat) (ys : List Int) (hy : ys.length = nb) (hpos : 0 < nb) (hyr : ∀ x ∈ ys, 0 ≤ x ∧ x < 256) (hsrc : Src w B ys) (hin : a + nb ≤ n) :
    Calls Try.prog 19 #[.pointer (some ⟨g, 0, none⟩), .int .u64 a, .slice B nb cb] w fun e w' => e = .returned (.bool true) ∧ Mm w' base 55 g (some ⟨b, 0, none⟩) n c (splice xs a ys) most ∧ w.grownBy w' (some b) := by
  have hth := there_w h.row hlen a nb (by omega) (by omega) (by omega) (by omega)
  rw [decide_eq_true (by omega)] at hth
  have c0 : w.cell? ⟨g, 0, none⟩ = some (.slice (some ⟨b, 0, none⟩) n c) := h.row.cell 0
  have hne := h.ne (by decide)
  have hO := h.own
  rcases hO.2 with ⟨hv, h0⟩ | ⟨b', cap, cur, hv, hb, hh, hnc, hcm, hcs, htake⟩
  · exact absurd hv (by simp)
  simp only [Value.slice.injEq, Option.some.injEq, Addr.mk.injEq, and_true, true_and] at hv
  obtain ⟨rfl, rfl⟩ := hv
  have hac : ¬ a = c := by omega
  have H := Aside0.mk h
  obtain ⟨ad, rfl, hsrc2⟩ := hsrc (by omega)
  have HS := Aside0.mk hsrc2
  have HY := Aside0.mk hy
  have HT := Aside0.mk htake
  have HC := Aside0.mk hcs
  have HO := Aside0.mk hO
  clear h hsrc hsrc2 hy htake hcs hO
  have h2 : (a : Int) ≤ (c : Int) := by omega
  go_enter Try.func19, Try.ntmps19
  go_wp2_with (first | (go_at_call 22; (refine hth.mono ?_); rintro e w' ⟨rfl, ⟨nd2, rfl⟩⟩) | (refine wpList_copy_own rfl (.tmp 18) (.tmp 19) 40 40 rfl 5 Try.underlying40 (by kernel_rfl) b a (n - a) (c - a) ad nb cb rfl rfl cur 5 hh (ys.map (Value.int .u8)) ?hn ?hsrc ?hfit (one_bytes ys) ?_))
  case hn =>
    rw [List.length_map, HY.out]
    exact (Nat.min_eq_left (by omega)).symm
  case hsrc => exact HS.out
  case hfit =>
    rw [List.length_map, HY.out, HC.out]
    omega
  go_ret
  refine ⟨rfl, ?_, ?_⟩
  · have hl : (splice xs a ys).length = n := by rw [length_splice _ _ _ (by rw [H.out.len, HY.out]; omega), H.out.len]
    have hcl : cur.toList.length = c := by rw [Array.length_toList, HC.out, Nat.mul_one]
    have hs := splice_take cur.toList n a (ys.map (Value.int .u8)) (by rw [List.length_map, HY.out]; omega)
    have ht := HT.out
    rw [Nat.mul_one] at ht
    rw [ht, ← splice_map] at hs
    have hsp : splice cur.toList a (ys.map (Value.int .u8)) = List.take a cur.toList ++ (List.map (Value.int .u8) ys ++ List.drop (a + ys.length) cur.toList) := by simp [splice]
    refine ⟨hl, H.out.lo, ?_, ⟨by rw [List.length_map, hl, Nat.mul_one], .inr ⟨b, c, _, rfl, hb, setRow_heap (w.drewN nd2) b cur _ 5 _ hh, hnc, hcm, ?_, ?_⟩⟩, splice_rng H.out.rng hyr a⟩
    · exact (setRow_other (w.drewN nd2) b g _ (fun e => hne (by rw [e]; rfl))).trans H.out.row
    · rw [← hsp]
      rw [List.size_toArray, length_splice _ _ _ (by rw [hcl, List.length_map, HY.out]; omega), hcl, Nat.mul_one]
    · rw [← hsp]
      rw [Nat.mul_one, List.toList_toArray, hs]
  · exact ⟨rfl, rfl, rfl, by simp [World.setRow], fun k hk hkb => setRow_other (w.drewN nd2) b k _ (fun e => hkb (by rw [e]))⟩
set_option maxHeartbeats 2000000 in
theorem write_zero {w : World} {base g n c : Nat} {A : Option Addr} {most : Int} {xs : List Int} (h : Mm w base 55 g A n c xs most) (hlen : n ≤ 4096) (a : Nat) (B : Option Addr) (cb : Nat) (hin : a ≤ n) :
    Calls Try.prog 19 #[.pointer (some ⟨g, 0, none⟩), .int .u64 a, .slice B 0 cb] w fun e w' => e = .returned (.bool true) ∧ Drawn0 w w' := by
  have hth := there_w h.row hlen a 0 (by omega) (by omega) (by omega) (by omega)
  rw [decide_eq_true (by omega)] at hth
  have c0 : w.cell? ⟨g, 0, none⟩ = some (.slice A n c) := h.row.cell 0
  have hnc : n ≤ c := by
    rcases h.own.2 with ⟨hv, h0⟩ | ⟨b', cap, cur, hv, hb, hh, hnc, hcm, hcs, htake⟩
    · omega
    · simp only [Value.slice.injEq] at hv; omega
  have h2 : (a : Int) ≤ (c : Int) := by omega
  have hc := h.bs.cases
  clear h
  rcases hc with ⟨rfl, rfl, rfl, _⟩ | ⟨b, rfl, _⟩
  · obtain rfl : a = 0 := by omega
    go_enter Try.func19, Try.ntmps19
    go_wp2_with (first | (go_at_call 22; (refine hth.mono ?_); rintro e w' ⟨rfl, ⟨nd2, rfl⟩⟩) | (refine wpList_copy_nothing rfl (.tmp 18) (.tmp 19) 40 40 rfl 5 Try.underlying40 (by kernel_rfl) _ _ _ _ _ _ rfl rfl ?hn ?_))
    case hn => simp
    go_ret
    exact ⟨rfl, ⟨_, rfl⟩⟩
  · by_cases hac : a = c
    · subst hac
      go_enter Try.func19, Try.ntmps19
      go_wp2_with (first | (go_at_call 22; (refine hth.mono ?_); rintro e w' ⟨rfl, ⟨nd2, rfl⟩⟩) | (refine wpList_copy_nothing rfl (.tmp 18) (.tmp 19) 40 40 rfl 5 Try.underlying40 (by kernel_rfl) _ _ _ _ _ _ rfl rfl ?hn ?_))
      case hn => simp
      go_ret
      exact ⟨rfl, ⟨_, rfl⟩⟩
    · go_enter Try.func19, Try.ntmps19
      go_wp2_with (first | (go_at_call 22; (refine hth.mono ?_); rintro e w' ⟨rfl, ⟨nd2, rfl⟩⟩) | (refine wpList_copy_nothing rfl (.tmp 18) (.tmp 19) 40 40 rfl 5 Try.underlying40 (by kernel_rfl) _ _ _ _ _ _ rfl rfl ?hn ?_))
      case hn => simp
      go_ret
      exact ⟨rfl, ⟨_, rfl⟩⟩
/-- Write, whatever is asked. -/
theorem write_all {w : World} {base g n c : Nat} {A : Option Addr} {most : Int} {xs : List Int} (h : Mm w base 55 g A n c xs most) (hlen : n ≤ 4096) (at_ : Int) (a0 : 0 ≤ at_) (a1 : at_ < 18446744073709551616)
    (B : Option Addr) (nb cb : Nat) (ys : List Int) (hy : ys.length = nb) (hnb : nb ≤ 65536) (hyr : ∀ x ∈ ys, 0 ≤ x ∧ x < 256) (hsrc : Src w B ys) :
    Calls Try.prog 19 #[.pointer (some ⟨g, 0, none⟩), .int .u64 at_, .slice B nb cb] w fun e w' => e = .returned (.bool (decide (at_ + nb ≤ n))) ∧ Mm w' base 55 g A n c (if at_ + nb ≤ n then splice xs at_.toNat ys else xs) most ∧ w.grownBy w' (blk A) := by
  by_cases hin : at_ + nb ≤ n
  · rw [decide_eq_true hin, if_pos hin]
    obtain ⟨a, rfl⟩ := Int.eq_ofNat_of_zero_le a0
    rw [Int.toNat_natCast]
    by_cases hpos : 0 < nb
    · obtain ⟨b, rfl, hb, hgb⟩ := h.ptr (by omega) (by decide)
      exact write_in h hlen a B nb cb ys hy hpos hyr hsrc (by omega)
    · obtain rfl : nb = 0 := by omega
      obtain rfl : ys = [] := List.eq_nil_of_length_eq_zero hy
      have hs : splice xs a ([] : List Int) = xs := by simp [splice]
      rw [hs]
      exact (write_zero h hlen a B cb (by omega)).mono fun e w' ⟨he, hD⟩ => ⟨he, by obtain ⟨k, rfl⟩ := hD; exact h.drewN k, grown_of_drawn hD _⟩
  · rw [decide_eq_false hin, if_neg hin]
    exact (write_no h hlen at_ a0 a1 B nb cb hnb hin).mono fun e w' ⟨he, hD⟩ => ⟨he, by obtain ⟨k, rfl⟩ := hD; exact h.drewN k, grown_of_drawn hD _⟩
end Go.Proofs.Ytefihkcmlmapoaa.Mem
