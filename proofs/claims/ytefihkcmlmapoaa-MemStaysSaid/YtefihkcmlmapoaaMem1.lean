import Derived.Test.YtefihkcmlmapoaaMem0
namespace Go.Proofs.Ytefihkcmlmapoaa.Mem
open Go.RowKit Go.Proofs.YtefihkcmlmapoaaW.PrintWords Go.Proofs.YtefihkcmlmapoaaW.PrintLast Go.Proofs.YtefihkcmlmapoaaW.PrintMore Go.Proofs.Ytefihkcmlmapoaa.PMemHalves
set_option linter.unusedVariables false
set_option linter.unusedSimpArgs false
def bytes (xs : List Int) : Array Value := (xs.map (Value.int .u8)).toArray
def put (xs : List Int) (a : Nat) (v : Int) : Nat → List Int
  | 0 => xs
  | j + 1 => (put xs a v j).set (a + j) (v / 2 ^ (8 * j) % 256)
theorem put_len (xs : List Int) (a : Nat) (v : Int) : ∀ j, (put xs a v j).length = xs.length
  | 0 => rfl
  | j + 1 => by rw [put, List.length_set, put_len xs a v j]
theorem bytes_cell {w : World} {b : Nat} {xs : List Int} (h : Row w b 5 (bytes xs)) (i : Nat) (hi : i < xs.length) : w.cell? ⟨b, i, none⟩ = some (.int .u8 xs[i]) := by
  rw [h.cell i]; simp [bytes, hi]
theorem Row.put_ {w : World} {g : Nat} {t : TypeId} {cs : Array Value} (h : Row w g t cs) (i : Nat) (u : Value) : Row (w.setCell ⟨g, i, none⟩ u) g t (cs.setIfInBounds i u) := by
  unfold Row at h ⊢
  simp [World.setCell, Array.getElem?_modify, h]
theorem Row.off {w : World} {g : Nat} {t : TypeId} {cs : Array Value} (h : Row w g t cs) {p : Addr} (hp : g ≠ p.block) (u : Value) : Row (w.setCell p u) g t cs := (Below.heap_setCell w p u g hp).trans h
theorem Row.differ {w : World} {g g' : Nat} {t t' : TypeId} {cs cs' : Array Value} (h : Row w g t cs) (h' : Row w g' t' cs') (hne : t ≠ t') : g ≠ g' := by
  rintro rfl
  unfold Row at h h'
  rw [h] at h'
  simp at h'
  exact hne h'.2
set_option maxHeartbeats 1000000 in
theorem store_calls {w : World} {base g b : Nat} {most : Int} {xs : List Int} (hb : Row w b 5 (bytes xs)) (hg : Row w g 55 #[.slice (some ⟨b, 0, none⟩) xs.length xs.length, .int .i64 most]) (hbb : base ≤ b) (hgb : 0 ≤ g) (at_ m : Nat) (v : Int)
    (hm : m = 1 ∨ m = 2 ∨ m = 4 ∨ m = 8) (hin : at_ + m ≤ xs.length) (hlen : xs.length ≤ 4096) :
    Calls Try.prog 11 #[.pointer (some ⟨g, 0, none⟩), .int .u64 at_, .int .i64 m, .int .u64 v] w fun e w' => e = .returned (.bool true) ∧
      Row w' b 5 (bytes (put xs at_ v m)) ∧ Row w' g 55 #[.slice (some ⟨b, 0, none⟩) xs.length xs.length, .int .i64 most] ∧ Below base w w' := by
  have hw : mem_width.f (m : Int) = some true := by
    unfold mem_width.f
    rcases hm with rfl | rfl | rfl | rfl <;> rfl
  have hgb' : g ≠ b := hg.differ hb (by decide)
  have ht : (decide ((at_ : Int) ≤ IntKind.u64.wrap (xs.length : Int)) && decide (IntKind.u64.wrap (m : Int) ≤ IntKind.u64.wrap (IntKind.u64.wrap (xs.length : Int) - at_))) = true := by
    simp only [IntKind.wrap_u64, Bool.and_eq_true, decide_eq_true_eq]
    omega
  have hth : ∀ n, Calls Try.prog 22 #[.pointer (some ⟨g, 0, none⟩), .int .u64 at_, .int .i64 m] (w.drewN n) fun e w' => e = .returned (.bool true) ∧ Drawn0 (w.drewN n) w' := by
    intro n
    have h := there_calls (w := w.drewN n) (g := g) (n := xs.length) (c := xs.length) hg at_ m
    rw [ht] at h
    exact h
  go_enter Try.func11, Try.ntmps11
  go_wp2_with (first | (go_at_call 21; (with_reducible refine (mem_width.calls m true _ hw).mono ?_); rintro e w' ⟨rfl, ⟨nd, rfl⟩⟩) | (go_at_call 22; (refine (hth _).mono ?_); rintro e w' ⟨rfl, ⟨nd2, rfl⟩⟩))
  go_loopg [21] m (fun kq v21 w' => ∃ j : Nat, v21 = .int .i64 j ∧ j + kq = m ∧ Row w' b 5 (bytes (put xs at_ v j)) ∧ Row w' g 55 #[.slice (some ⟨b, 0, none⟩) xs.length xs.length, .int .i64 most] ∧ Below base w w')
  case atStart => exact ⟨0, rfl, by omega, hb, hg, by apply pw_below_drewN; exact Below.refl _ _⟩
  case round =>
    obtain ⟨j, rfl, hj, hr, hg2, hB⟩ := hrel
    cases gk with
    | zero =>
      obtain rfl : j = m := by omega
      go_wp2
      go_ret
      exact ⟨rfl, hr, hg2, hB⟩
    | succ k2 =>
      have hlt : ((j : Int) < (m : Int)) = True := eq_true (by omega)
      have hl := put_len xs at_ v j
      have hi : at_ + j < xs.length := by omega
      have c0 : wr.cell? ⟨g, 0, none⟩ = some (.slice (some ⟨b, 0, none⟩) xs.length xs.length) := hg2.cell 0
      have hc := bytes_cell hr (at_ + j) (by omega)
      have hf := hr.frozen (at_ + j)
      have ei : IntKind.u64.wrap ((at_ : Int) + IntKind.u64.wrap (j : Int)) = ((at_ + j : Nat) : Int) := by
        simp only [IntKind.wrap_u64]; omega
      have e8 : IntKind.i64.wrap (8 * (j : Int)) = ((8 * j : Nat) : Int) := by rw [IntKind.wrap_i64]; omega
      have hj0 : decide ((j : Int) < 0) = false := decide_eq_false (by omega)
      go_wp2
      go_region
      go_wp2
      have hr3 : Row (wr.setCell ⟨b, at_ + j, none⟩ (.int .u8 (v / 2 ^ (8 * j) % 256))).drew b 5 (bytes (put xs at_ v (j + 1))) := by
        have h := hr.put_ (at_ + j) (.int .u8 (v / 2 ^ (8 * j) % 256))
        have e : (bytes (put xs at_ v j)).setIfInBounds (at_ + j) (.int .u8 (v / 2 ^ (8 * j) % 256)) = bytes (put xs at_ v (j + 1)) := by
          simp [bytes, put, List.map_set]
        rw [e] at h
        exact h
      have hg3 : Row (wr.setCell ⟨b, at_ + j, none⟩ (.int .u8 (v / 2 ^ (8 * j) % 256))).drew g 55 #[.slice (some ⟨b, 0, none⟩) xs.length xs.length, .int .i64 most] := hg2.off hgb' _
      go_roundg k2
      case measure => omega
      case rel => exact ⟨j + 1, by simp, by omega, hr3, hg3, by apply below_drew1; exact hB.setCell hbb _⟩

/-- The number of n bytes from a on, the first the lowest. -/
def get (xs : List Int) (a : Nat) : Nat → Int
  | 0 => 0
  | n + 1 => xs.getD a 0 + 256 * get xs (a + 1) n
theorem getD_range {xs : List Int} (h : ∀ x ∈ xs, 0 ≤ x ∧ x < 256) (a : Nat) : 0 ≤ xs.getD a 0 ∧ xs.getD a 0 < 256 := by
  by_cases ha : a < xs.length
  · have e : xs.getD a 0 = xs[a] := by simp [List.getD, ha]
    rw [e]; exact h _ (List.getElem_mem ha)
  · have e : xs.getD a 0 = 0 := by simp [List.getD, ha]
    rw [e]; decide
theorem get_range {xs : List Int} (h : ∀ x ∈ xs, 0 ≤ x ∧ x < 256) : ∀ n a, 0 ≤ get xs a n ∧ get xs a n < 256 ^ n
  | 0, _ => by simp [get]
  | n + 1, a => by
    have h1 := get_range h n (a + 1)
    have h2 := getD_range h a
    rw [get, Int.pow_succ]
    omega
theorem or_byte {G x : Int} (g0 : 0 ≤ G) (g1 : G < 72057594037927936) (x0 : 0 ≤ x) (x1 : x < 256) : bits BinOp.or IntKind.u64 (IntKind.u64.wrap (G * 256)) (IntKind.u64.wrap x) = x + 256 * G := by
  rw [IntKind.wrap_u64, IntKind.wrap_u64, Int.emod_eq_of_lt (by omega) (by omega), Int.emod_eq_of_lt (by omega) (by omega)]
  obtain ⟨a, rfl⟩ := Int.eq_ofNat_of_zero_le g0
  obtain ⟨b, rfl⟩ := Int.eq_ofNat_of_zero_le x0
  have h := (bits_nat .u64 64 (by decide) (fun n h0 h => by rw [IntKind.wrap_u64]; omega) (a * 256) b (by omega) (by omega)).2
  rw [show (a : Int) * 256 = ((a * 256 : Nat) : Int) from by omega, h]
  rw [Nat.mul_comm, show 256 = 2 ^ 8 from rfl, ← Nat.two_pow_add_eq_or_of_lt (by omega)]
  omega
set_option maxHeartbeats 1000000 in
theorem load_calls {w : World} {g b : Nat} {most : Int} {xs : List Int} (hx : ∀ x ∈ xs, 0 ≤ x ∧ x < 256) (hb : Row w b 5 (bytes xs)) (hg : Row w g 55 #[.slice (some ⟨b, 0, none⟩) xs.length xs.length, .int .i64 most]) (at_ m : Nat)
    (hm : m = 1 ∨ m = 2 ∨ m = 4 ∨ m = 8) (hin : at_ + m ≤ xs.length) (hlen : xs.length ≤ 4096) :
    Calls Try.prog 12 #[.pointer (some ⟨g, 0, none⟩), .int .u64 at_, .int .i64 m] w fun e w' => e = .returned (.tuple #[.int .u64 (get xs at_ m), .bool true]) ∧ Drawn0 w w' := by
  have hw : mem_width.f (m : Int) = some true := by
    unfold mem_width.f
    rcases hm with rfl | rfl | rfl | rfl <;> rfl
  have ht : (decide ((at_ : Int) ≤ IntKind.u64.wrap (xs.length : Int)) && decide (IntKind.u64.wrap (m : Int) ≤ IntKind.u64.wrap (IntKind.u64.wrap (xs.length : Int) - at_))) = true := by
    simp only [IntKind.wrap_u64, Bool.and_eq_true, decide_eq_true_eq]
    omega
  have hth : ∀ n, Calls Try.prog 22 #[.pointer (some ⟨g, 0, none⟩), .int .u64 at_, .int .i64 m] (w.drewN n) fun e w' => e = .returned (.bool true) ∧ Drawn0 (w.drewN n) w' := by
    intro n
    have h := there_calls (w := w.drewN n) (g := g) (n := xs.length) (c := xs.length) hg at_ m
    rw [ht] at h
    exact h
  have em : IntKind.i64.wrap ((m : Int) - 1) = (m : Int) - 1 := by rw [IntKind.wrap_i64]; omega
  go_enter Try.func12, Try.ntmps12
  go_wp2_with (first | (go_at_call 21; (with_reducible refine (mem_width.calls m true _ hw).mono ?_); rintro e w' ⟨rfl, ⟨nd, rfl⟩⟩) | (go_at_call 22; (refine (hth _).mono ?_); rintro e w' ⟨rfl, ⟨nd2, rfl⟩⟩))
  go_loopg [8, 9] m (fun kq v8 v9 w' => v8 = .int .u64 (get xs (at_ + kq) (m - kq)) ∧ v9 = .int .i64 ((kq : Int) - 1) ∧ kq ≤ m ∧ Drawn0 w w')
  case atStart => exact ⟨by rw [Nat.sub_self]; rfl, by simp, Nat.le_refl _, ⟨_, rfl⟩⟩
  case round =>
    obtain ⟨rfl, rfl, hk, ⟨nd3, rfl⟩⟩ := hrel
    cases gk with
    | zero =>
      go_wp2
      go_ret2
      exact ⟨by simp, ⟨_, rfl⟩⟩
    | succ k2 =>
      have c0 : (w.drewN nd3).cell? ⟨g, 0, none⟩ = some (.slice (some ⟨b, 0, none⟩) xs.length xs.length) := hg.cell 0
      have hc : (w.drewN nd3).cell? ⟨b, at_ + k2, none⟩ = some (.int .u8 (xs[at_ + k2]'(by omega))) := bytes_cell hb (at_ + k2) (by omega)
      have hx2 : xs.getD (at_ + k2) 0 = xs[at_ + k2]'(by omega) := by simp [List.getD, show at_ + k2 < xs.length by omega]
      have hxr := getD_range hx (at_ + k2)
      have hgr := get_range hx (m - (k2 + 1)) (at_ + (k2 + 1))
      have hpow : (256 : Int) ^ (m - (k2 + 1)) ≤ 256 ^ 7 := by
        have : ∀ i : Fin 8, (256 : Int) ^ i.val ≤ 256 ^ 7 := by decide
        exact this ⟨m - (k2 + 1), by omega⟩
      have hor := or_byte hgr.1 (by have : (256 : Int) ^ 7 = 72057594037927936 := by decide
                                    omega) hxr.1 hxr.2
      have hget : get xs (at_ + k2) (m - k2) = xs.getD (at_ + k2) 0 + 256 * get xs (at_ + (k2 + 1)) (m - (k2 + 1)) := by
        rw [show m - k2 = (m - (k2 + 1)) + 1 from by omega, get, show at_ + k2 + 1 = at_ + (k2 + 1) from by omega]
      go_wp2
      go_roundg k2
      case measure => omega
      case rel =>
        rw [hx2] at hor hget hxr
        have h7 : (256 : Int) ^ 7 = 72057594037927936 := by decide
        have hG : get xs (at_ + (k2 + 1)) (m - (k2 + 1)) < 72057594037927936 := by omega
        have hG0 := hgr.1
        clear hgr hpow
        exact ⟨by rw [hget, ← hor]; congr 2 <;> simp only [IntKind.wrap_u64] <;> omega, rfl, by omega, ⟨_, rfl⟩⟩
end Go.Proofs.Ytefihkcmlmapoaa.Mem
