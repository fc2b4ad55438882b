/- text.digits by a contract in the printed texts' form. -/
import Derived.Test.YtjenbegobpfclaaDoorMn0
set_option linter.unusedVariables false
set_option linter.unusedSimpArgs false
namespace Go.Proofs.YtjenbegobpfclaaDoor.Man
open Go.RowKit Go.Shelf Go.Proofs.YtjenbegobpfclaaDoorW.PrintWords
theorem add64 (x y : Int) (hx : 0 ≤ x) (hy : 0 ≤ y) (w : World) : (callFunc 36 #[.int .u64 x, .int .u64 y, .int .u64 0]).run Tryd.prog w =
      .ok (.value (.tuple #[.int .u64 ((x + y) % 18446744073709551616), .int .u64 ((x + y) / 18446744073709551616)])) w := by
  have h := run_add64 (P := Tryd.prog) x y 0 hx hy (by omega) (by omega) (w := w)
  have e := run_callFunc_extern (P := Tryd.prog) Tryd.func36 (by kernel_rfl) (by kernel_rfl) (by kernel_rfl) (e := add64Entry) (by kernel_rfl) (args := #[.int .u64 x, .int .u64 y, .int .u64 0]) (w := w)
  rw [e, h, Int.add_zero]
  rfl
theorem mul64 (x y : Int) (hx : 0 ≤ x) (hx2 : x < 18446744073709551616) (hy : 0 ≤ y) (hy2 : y < 18446744073709551616) (w : World) :
    Calls Tryd.prog 35 #[.int .u64 x, .int .u64 y] w fun e w' => e = .returned (.tuple #[.int .u64 (x * y / 18446744073709551616), .int .u64 (x * y % 18446744073709551616)]) ∧ w' = w := by
  obtain ⟨a, rfl⟩ := Int.eq_ofNat_of_zero_le hx
  obtain ⟨b, rfl⟩ := Int.eq_ofNat_of_zero_le hy
  have h := Go.Proofs.Tryd.bits_Mul64 a b (by omega) (by omega) w
  refine h.mono fun e w' ⟨he, hw⟩ => ⟨?_, hw⟩
  rw [he]
  congr 1
/-- The number that digits are: v and whether it fits so far. -/
def dgs : Nat → ByteArray → Int → Int → Int → Bool → Option (Int × Bool × Bool)
  | 0, _, _, _, _, _ => none
  | k + 1, s, b, i, v, fits =>
    if i < (s.size : Int) then
      if bt s i = 95 ∧ 0 < i ∧ i + 1 < (s.size : Int) ∧ bt s (i - 1) ≠ 95 then dgs k s b (i + 1) v fits
      else if dg (bt s i) b < 0 then some (0, false, false)
      else dgs k s b (i + 1) ((v * b + dg (bt s i) b) % 18446744073709551616) (fits && decide (v * b + dg (bt s i) b < 18446744073709551616))
    else some (v, fits, decide (0 < (s.size : Int)))
def text_digits.f (a0 : ByteArray) (a1 : Int) : Option (Int × Bool × Bool) := if (a1 = 10 ∨ a1 = 16) ∧ a0.size ≤ 1000000 then dgs (a0.size + 1) a0 a1 0 0 true else none
theorem drawn_trans {a b c : World} (h : Drawn0 a b) (h2 : Drawn0 b c) : Drawn0 a c := by
  obtain ⟨⟨n, rfl⟩⟩ := h2
  exact h.step n
theorem dg95 (b : Int) : dg 95 b = -1 := by unfold dg; simp
theorem step_fits {v b d : Int} (hv : 0 ≤ v) (hb : 0 ≤ b) (hd : 0 ≤ d) (fits : Bool) (hvb : 0 ≤ v * b) (hd2 : d ≤ 15) :
    (v * b % 18446744073709551616 + d) % 18446744073709551616 = (v * b + d) % 18446744073709551616 ∧
    (decide (v * b / 18446744073709551616 = 0) && decide ((v * b % 18446744073709551616 + d) / 18446744073709551616 = 0)) = decide (v * b + d < 18446744073709551616) := by
  generalize v * b = p at *
  refine ⟨by omega, ?_⟩
  by_cases h1 : p / 18446744073709551616 = 0
  · by_cases h2 : (p % 18446744073709551616 + d) / 18446744073709551616 = 0
    · have : p + d < 18446744073709551616 := by omega
      simp [h1, h2, this]
    · have : ¬ p + d < 18446744073709551616 := by omega
      simp [h2, this]
  · have : ¬ p + d < 18446744073709551616 := by omega
    simp [h1, this]
set_option maxHeartbeats 4000000 in
theorem text_digits.calls (a0 : ByteArray) (a1 : Int) (r1 : Int) (r2 r3 : Bool) (w : World) (h : text_digits.f a0 a1 = some (r1, r2, r3)) :
    Calls Tryd.prog 16 #[.string a0, .int .u64 a1] w fun e w' => e = .returned (.tuple #[.int .u64 r1, .bool r2, .bool r3]) ∧ Drawn0 w w' := by
  unfold text_digits.f at h
  split at h
  · rename_i hc
    obtain ⟨h2, hsz⟩ := hc
    have HS := Aside0.mk hsz
    have Hb := Aside0.mk h2
    have H0 := Aside0.mk h
    clear hsz h2 h
    go_enter Tryd.func16, Tryd.ntmps16
    go_wp2
    go_loopg [7, 8, 9] (a0.size + 1) (fun kq v7 v8 v9 w' => ∃ (v : Int) (fits : Bool) (i : Int), v7 = .int .u64 v ∧ v8 = .bool fits ∧ v9 = .int .i64 i ∧ 0 ≤ i ∧ i ≤ (a0.size : Int) ∧ Aside0 (0 ≤ v ∧ v < 18446744073709551616) ∧ Aside0 (dgs kq a0 a1 i v fits = some (r1, r2, r3)) ∧ Aside0 (Drawn0 w w'))
    case atStart => exact ⟨0, true, 0, rfl, rfl, rfl, by omega, by omega, ⟨by omega, by omega⟩, H0, ⟨by repeat (first | exact Drawn0.refl _ | apply Drawn0.step)⟩⟩
    case round =>
      obtain ⟨v, fits, i, rfl, rfl, rfl, h0, h1, HV, HQ, HD⟩ := hrel
      clear H0
      cases gk with
      | zero => exact absurd HQ.out (by simp [dgs])
      | succ kr =>
        have HQ' := HQ.out
        rw [dgs] at HQ'
        have hw1 : IntKind.i64.wrap (i + 1) = i + 1 := by rw [IntKind.wrap_i64]; have := HS.out; omega
        by_cases hlt : i < (a0.size : Int)
        · rw [if_pos hlt] at HQ'
          have p5 : (0 ≤ i) = True := eq_true h0
          have q5 : (i < (a0.size : Int)) = True := eq_true hlt
          have hx5 := bt_at a0 i
          have P5 := Aside0.mk (And.intro h0 hlt)
          have Q5 := Aside0.mk (show 0 ≤ i + 1 ∧ i + 1 ≤ (a0.size : Int) by omega)
          have R5 := Aside0.mk (bt_range a0 i)
          have hN := Aside0.mk (show i - 1 < (a0.size : Int) by omega)
          by_cases h95 : bt a0 i = 95
          · have e95 : (bt a0 i == 95) = true := beq_iff_eq.mpr h95
            have G := Aside0.mk (show text_digit.f 95 a1 = some (-1) by unfold text_digit.f; rw [if_pos ⟨⟨by omega, by omega⟩, Hb.out⟩, dg95])
            have HN := Aside0.mk (fun hx : ¬ (bt a0 i = 95 ∧ 0 < i ∧ i + 1 < (a0.size : Int) ∧ bt a0 (i - 1) ≠ 95) => (show (some ((0 : Int), false, false) : Option (Int × Bool × Bool)) = some (r1, r2, r3) by rw [if_neg hx, h95, dg95, if_pos (by omega)] at HQ'; exact HQ'))
            have HY := Aside0.mk (fun hx : (bt a0 i = 95 ∧ 0 < i ∧ i + 1 < (a0.size : Int) ∧ bt a0 (i - 1) ≠ 95) => (show dgs kr a0 a1 (i + 1) v fits = some (r1, r2, r3) by rw [if_pos hx] at HQ'; exact HQ'))
            have H95 := Aside0.mk h95
            clear HQ HQ' h0 h1 hlt
            rw [h95] at hx5
            by_cases g1 : 0 < i
            · have e1 : (0 < i) = True := eq_true g1
              by_cases g2 : i + 1 < (a0.size : Int)
              · have e2 : (i + 1 < (a0.size : Int)) = True := eq_true g2
                have hw2 : IntKind.i64.wrap (i - 1) = i - 1 := by rw [IntKind.wrap_i64]; have := HS.out; omega
                have p6 : (0 ≤ i - 1) = True := eq_true (by omega)
                have q6 : (i - 1 < (a0.size : Int)) = True := eq_true (by have := hN.out; omega)
                have p7 : (1 ≤ i) = True := eq_true (by omega)
                have p8 : (i < 1) = False := eq_false (by omega)
                have hx6 := bt_at a0 (i - 1)
                rw [show (i - 1).toNat = i.toNat - 1 by omega] at hx6
                by_cases g3 : bt a0 (i - 1) = 95
                · have e3 : (bt a0 (i - 1) == 95) = true := beq_iff_eq.mpr g3
                  have HR := Aside0.mk (HN.out (fun hx => hx.2.2.2 g3))
                  rw [g3] at hx6
                  clear HN HY g3 h95 g1 g2 e95 e3
                  go_wp2_with (go_at_call 18; (refine (text_digit.calls 95 a1 _ _ G.out).mono ?_); rintro e w2 ⟨rfl, hD⟩; have HD2 := Aside0.mk (drawn_trans HD.out hD); clear hD)
                  go_ret3
                  have q := Option.some.inj HR.out
                  obtain ⟨rfl, rfl, rfl⟩ : (0 : Int) = r1 ∧ false = r2 ∧ false = r3 := by injection q with q1 q; injection q with q2 q3; exact ⟨q1, q2, q3⟩
                  exact ⟨rfl, HD2.out⟩
                · have e3 : (bt a0 (i - 1) == 95) = false := beq_eq_false_iff_ne.mpr g3
                  have e3' : (bt a0 (i - 1) != 95) = true := bne_iff_ne.mpr g3
                  have HR := Aside0.mk (HY.out ⟨H95.out, g1, g2, g3⟩)
                  clear HN HY g3 h95 g1 g2 e95
                  go_wp2_with fail
                  go_roundg kr
                  case measure => omega
                  case rel => exact ⟨v, fits, i + 1, rfl, rfl, (by first | rfl | (rw [← hw1]; rfl) | (simp; done) | (simp [*]; done)), Q5.out.1, Q5.out.2, HV, HR, ⟨by repeat (first | exact HD.out | apply Drawn0.step)⟩⟩
              · have e2 : (i + 1 < (a0.size : Int)) = False := eq_false g2
                have HR := Aside0.mk (HN.out (fun hx => g2 hx.2.2.1))
                clear HN HY h95 g1 g2 e95
                go_wp2_with (go_at_call 18; (refine (text_digit.calls 95 a1 _ _ G.out).mono ?_); rintro e w2 ⟨rfl, hD⟩; have HD2 := Aside0.mk (drawn_trans HD.out hD); clear hD)
                go_ret3
                have q := Option.some.inj HR.out
                obtain ⟨rfl, rfl, rfl⟩ : (0 : Int) = r1 ∧ false = r2 ∧ false = r3 := by injection q with q1 q; injection q with q2 q3; exact ⟨q1, q2, q3⟩
                exact ⟨rfl, HD2.out⟩
            · have e1 : (0 < i) = False := eq_false g1
              have HR := Aside0.mk (HN.out (fun hx => g1 hx.2.1))
              clear HN HY h95 g1 e95
              go_wp2_with (go_at_call 18; (refine (text_digit.calls 95 a1 _ _ G.out).mono ?_); rintro e w2 ⟨rfl, hD⟩; have HD2 := Aside0.mk (drawn_trans HD.out hD); clear hD)
              go_ret3
              have q := Option.some.inj HR.out
              obtain ⟨rfl, rfl, rfl⟩ : (0 : Int) = r1 ∧ false = r2 ∧ false = r3 := by injection q with q1 q; injection q with q2 q3; exact ⟨q1, q2, q3⟩
              exact ⟨rfl, HD2.out⟩
          · have e95 : (bt a0 i == 95) = false := beq_eq_false_iff_ne.mpr h95
            rw [if_neg (fun hx => h95 hx.1)] at HQ'
            have G := Aside0.mk (show text_digit.f (bt a0 i) a1 = some (dg (bt a0 i) a1) by unfold text_digit.f; rw [if_pos ⟨⟨R5.out.1, by have := R5.out.2; omega⟩, Hb.out⟩])
            obtain ⟨x, hx⟩ : ∃ x, bt a0 i = x := ⟨_, rfl⟩
            rw [hx] at hx5 e95 G HQ'
            have hdr := dg_range x a1
            obtain ⟨d, hd⟩ : ∃ d, dg x a1 = d := ⟨_, rfl⟩
            rw [hd] at G HQ' hdr
            clear HQ h0 h1 hlt h95 hx hd R5
            by_cases hneg : d < 0
            · have hd1 : d = -1 := by omega
              subst hd1
              rw [if_pos hneg] at HQ'
              have HR := Aside0.mk HQ'
              clear HQ' hdr hneg
              go_wp2_with (go_at_call 18; (refine (text_digit.calls x a1 _ _ G.out).mono ?_); rintro e w2 ⟨rfl, hD⟩; have HD2 := Aside0.mk (drawn_trans HD.out hD); clear hD)
              go_ret3
              have q := Option.some.inj HR.out
              obtain ⟨rfl, rfl, rfl⟩ : (0 : Int) = r1 ∧ false = r2 ∧ false = r3 := by injection q with q1 q; injection q with q2 q3; exact ⟨q1, q2, q3⟩
              exact ⟨rfl, HD2.out⟩
            · rw [if_neg hneg] at HQ'
              have n1 : (d < 0) = False := eq_false hneg
              have hb01 : 0 ≤ a1 ∧ a1 < 18446744073709551616 := by rcases Hb.out with h | h <;> omega
              have CM := Aside0.mk (fun W5 : World => mul64 v a1 HV.out.1 HV.out.2 hb01.1 hb01.2 W5)
              have hvb : 0 ≤ v * a1 := Int.mul_nonneg HV.out.1 hb01.1
              obtain ⟨s1, s2⟩ := step_fits HV.out.1 hb01.1 (show 0 ≤ d by omega) fits hvb hdr.2
              have ED := Aside0.mk (And.intro s1 s2)
              have HR := Aside0.mk HQ'
              have hcd : d % 18446744073709551616 = d := by omega
              have CA := Aside0.mk (fun W5 : World => add64 (v * a1 % 18446744073709551616) d (by omega) (by omega) W5)
              have HRg := Aside0.mk (show 0 ≤ (v * a1 + d) % 18446744073709551616 ∧ (v * a1 + d) % 18446744073709551616 < 18446744073709551616 by omega)
              have CAo := CA.out
              clear HQ' hdr hneg hb01 hvb s1 s2
              obtain ⟨hi, hhi⟩ : ∃ hi, v * a1 / 18446744073709551616 = hi := ⟨_, rfl⟩
              obtain ⟨lo, hlo⟩ : ∃ lo, v * a1 % 18446744073709551616 = lo := ⟨_, rfl⟩
              rw [hhi, hlo] at CM ED
              rw [hlo] at CAo
              obtain ⟨cy, hcy⟩ : ∃ cy, (lo + d) / 18446744073709551616 = cy := ⟨_, rfl⟩
              obtain ⟨sm, hsm⟩ : ∃ sm, (lo + d) % 18446744073709551616 = sm := ⟨_, rfl⟩
              rw [hcy, hsm] at ED
              rw [hcy, hsm] at CAo
              rw [← ED.out.1, ← ED.out.2] at HR
              rw [← ED.out.1] at HRg
              clear hhi hlo hcy hsm ED CA
              cases fits with
              | false =>
                rw [Bool.false_and] at HR
                go_wp2_with (first | (go_at_call 18; (refine (text_digit.calls x a1 _ _ G.out).mono ?_); rintro e w2 ⟨rfl, hD⟩; have HD2 := Aside0.mk (drawn_trans HD.out hD); clear hD) | (go_at_call 35; (refine (CM.out _).mono ?_); rintro e w3 ⟨rfl, rfl⟩) | (simp only [CAo]))
                go_roundg kr
                case measure => omega
                case rel => exact ⟨sm, false, i + 1, rfl, (by first | rfl | (simp; done) | (simp [*]; done)), (by first | rfl | (rw [← hw1]; rfl) | (simp; done) | (simp [*]; done)), Q5.out.1, Q5.out.2, HRg, HR, ⟨by repeat (first | exact HD2.out | apply Drawn0.step)⟩⟩
              | true =>
                rw [Bool.true_and] at HR
                by_cases z1 : hi = 0
                · have z1b : (hi == 0) = true := beq_iff_eq.mpr z1
                  rw [decide_eq_true z1, Bool.true_and] at HR
                  by_cases z2 : cy = 0
                  · have z2b : (cy == 0) = true := beq_iff_eq.mpr z2
                    rw [decide_eq_true z2] at HR
                    clear z1 z2
                    go_wp2_with (first | (go_at_call 18; (refine (text_digit.calls x a1 _ _ G.out).mono ?_); rintro e w2 ⟨rfl, hD⟩; have HD2 := Aside0.mk (drawn_trans HD.out hD); clear hD) | (go_at_call 35; (refine (CM.out _).mono ?_); rintro e w3 ⟨rfl, rfl⟩) | (simp only [CAo]))
                    go_roundg kr
                    case measure => omega
                    case rel => exact ⟨sm, true, i + 1, rfl, (by first | rfl | (simp; done) | (simp [*]; done)), (by first | rfl | (rw [← hw1]; rfl) | (simp; done) | (simp [*]; done)), Q5.out.1, Q5.out.2, HRg, HR, ⟨by repeat (first | exact HD2.out | apply Drawn0.step)⟩⟩
                  · have z2b : (cy == 0) = false := beq_eq_false_iff_ne.mpr z2
                    rw [decide_eq_false z2] at HR
                    clear z1 z2
                    go_wp2_with (first | (go_at_call 18; (refine (text_digit.calls x a1 _ _ G.out).mono ?_); rintro e w2 ⟨rfl, hD⟩; have HD2 := Aside0.mk (drawn_trans HD.out hD); clear hD) | (go_at_call 35; (refine (CM.out _).mono ?_); rintro e w3 ⟨rfl, rfl⟩) | (simp only [CAo]))
                    go_roundg kr
                    case measure => omega
                    case rel => exact ⟨sm, false, i + 1, rfl, (by first | rfl | (simp; done) | (simp [*]; done)), (by first | rfl | (rw [← hw1]; rfl) | (simp; done) | (simp [*]; done)), Q5.out.1, Q5.out.2, HRg, HR, ⟨by repeat (first | exact HD2.out | apply Drawn0.step)⟩⟩
                · have z1b : (hi == 0) = false := beq_eq_false_iff_ne.mpr z1
                  rw [decide_eq_false z1, Bool.false_and] at HR
                  clear z1
                  go_wp2_with (first | (go_at_call 18; (refine (text_digit.calls x a1 _ _ G.out).mono ?_); rintro e w2 ⟨rfl, hD⟩; have HD2 := Aside0.mk (drawn_trans HD.out hD); clear hD) | (go_at_call 35; (refine (CM.out _).mono ?_); rintro e w3 ⟨rfl, rfl⟩) | (simp only [CAo]))
                  go_roundg kr
                  case measure => omega
                  case rel => exact ⟨sm, false, i + 1, rfl, (by first | rfl | (simp; done) | (simp [*]; done)), (by first | rfl | (rw [← hw1]; rfl) | (simp; done) | (simp [*]; done)), Q5.out.1, Q5.out.2, HRg, HR, ⟨by repeat (first | exact HD2.out | apply Drawn0.step)⟩⟩
        · rw [if_neg hlt] at HQ'
          have q5 : (i < (a0.size : Int)) = False := eq_false hlt
          have q := Option.some.inj HQ'
          obtain ⟨rfl, rfl, rfl⟩ : v = r1 ∧ fits = r2 ∧ decide (0 < (a0.size : Int)) = r3 := by injection q with q1 q; injection q with q2 q3; exact ⟨q1, q2, q3⟩
          clear q HQ' hlt
          go_wp2_with fail
          go_ret3
          exact ⟨by first | rfl | (simp; done), HD.out⟩
  · cases h
end Go.Proofs.YtjenbegobpfclaaDoor.Man
