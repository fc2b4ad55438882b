import Derived.Test.YtgplakhkofchiaaDoorQNumBack
namespace Go.Proofs.YtgplakhkofchiaaDoor.Pure
open Go.RowKit Go.Proofs.YtgplakhkofchiaaDoor.RNumBack Go.Proofs.YtgplakhkofchiaaDoor.QNumBack Go.Proofs.YtgplakhkofchiaaDoorW.PrintWords Go.Proofs.YtgplakhkofchiaaDoorW.PrintLast

theorem cong {m q y r q' y' r' : Int} (h1 : q % m = q' % m) (h2 : y % m = y' % m) (h3 : r % m = r' % m) : (q * y + r) % m = (q' * y' + r') % m := by
  rw [Int.add_emod, Int.mul_emod, h1, h2, h3, ← Int.mul_emod, ← Int.add_emod]

/-- One round: the quotient is there. -/
theorem round {base n x y v v' : Int} (hb : Base base n) (hx : In x n) (hy : In y n) (hy0 : ¬ y = 0) (s : Nat) (hs : s < 2)
    (hq : ∀ k, 15 ≤ k → num_two.f k ((3 + s : Nat) : Int) x y n = some (v, 0)) (hr : ∀ k, 15 ≤ k → num_two.f k ((5 + s : Nat) : Int) x y n = some (v', 0))
    (q0 : 0 ≤ v) (q1 : v < 18446744073709551616) (r0 : 0 ≤ v') (r1 : v' < 18446744073709551616) (law : (v * y + v') % M n = x % M n) (k : Nat) (hk : 50 ≤ k) :
    grommetlaw03_NumBack.l0 (k + 2) x y true base (s : Int) = grommetlaw03_NumBack.l0 k x y true base ((s + 1 : Nat) : Int) := by
  have hn := hb.n
  have hbase : 0 ≤ base ∧ base ≤ 200 := by rcases hb with ⟨rfl, _⟩ | ⟨rfl, _⟩ <;> omega
  have mod : ∀ z : Int, 0 ≤ z % 18446744073709551616 ∧ z % 18446744073709551616 < 18446744073709551616 := fun z => by omega
  have iv : In (cutN v n) n := in_cut q0 q1
  have iv' : In (cutN v' n) n := in_cut r0 r1
  rw [show k + 2 = (k + 1) + 1 from rfl, grommetlaw03_NumBack.l0, if_pos (by omega)]
  rw [w64 (base + 3) (by omega) (by omega), w64 (base + 5) (by omega) (by omega), w64 (base + 3 + (s : Int)) (by omega) (by omega), w64 (base + 5 + (s : Int)) (by omega) (by omega)]
  rw [ev hb hx hy (3 + s) (by omega) (base + 3 + (s : Int)) (by omega) (k + 1) (by omega) (fun k hk => hq k hk) q0 q1]
  rw [ev hb hx hy (5 + s) (by omega) (base + 5 + (s : Int)) (by omega) (k + 1) (by omega) (fun k hk => hr k hk) r0 r1]
  rw [Option.bind_some, Option.bind_some]
  rw [if_pos (by rfl), if_pos (by rfl), if_pos (by rfl), if_neg hy0, if_pos (by rfl)]
  rw [grommetlaw03_NumBack.j2, if_neg (by show ¬ ((0 : Int) != 0) = true; decide), if_pos (by rfl)]
  rw [w64 (base + 2) (by omega) (by omega)]
  rw [ev hb iv hy 2 (by omega) (base + 2) (by omega) k (by omega) (fun k hk => (two_plain hn iv hy k (by omega)).2.2) (mod _).1 (mod _).2]
  rw [Option.bind_some]
  have ip : In (cutN (cutN v n * y % 18446744073709551616) n) n := in_cut (mod _).1 (mod _).2
  rw [ev hb ip iv' 0 (by omega) base (by omega) k (by omega) (fun k hk => (two_plain hn ip iv' k (by omega)).1) (mod _).1 (mod _).2]
  rw [Option.bind_some, if_pos (by rfl), if_pos (by rfl), if_pos ?_]
  · rw [w64 _ (by omega) (by omega)]; rfl
  · show cutN ((cutN (cutN v n * y % 18446744073709551616) n + cutN v' n) % 18446744073709551616) n = x
    rw [cut_mod, cut_mod, cutN_M q0 q1, cutN_M r0 r1, ← Int.add_emod, cong (q' := v) (y' := y) (r' := v') (Int.emod_emod_of_dvd _ (Int.dvd_refl _)) rfl rfl, law, in_M hn hx]

/-- One round: a trap on both sides, or a quotient that isn't there. -/
theorem round_trap {base n x y t t' : Int} (hb : Base base n) (hx : In x n) (hy : In y n) (s : Nat) (hs : s < 2)
    (hq : ∀ k, 15 ≤ k → num_two.f k ((3 + s : Nat) : Int) x y n = some (0, t)) (hr : ∀ k, 15 ≤ k → num_two.f k ((5 + s : Nat) : Int) x y n = some (0, t'))
    (ht : ¬ t = 0) (htt : (y = 0 ∧ t' = 2) ∨ (¬ y = 0 ∧ t' = 0)) (k : Nat) (hk : 50 ≤ k) :
    grommetlaw03_NumBack.l0 (k + 2) x y true base (s : Int) = grommetlaw03_NumBack.l0 k x y true base ((s + 1 : Nat) : Int) := by
  have hn := hb.n
  have hbase : 0 ≤ base ∧ base ≤ 200 := by rcases hb with ⟨rfl, _⟩ | ⟨rfl, _⟩ <;> omega
  rw [show k + 2 = (k + 1) + 1 from rfl, grommetlaw03_NumBack.l0, if_pos (by omega)]
  rw [w64 (base + 3) (by omega) (by omega), w64 (base + 5) (by omega) (by omega), w64 (base + 3 + (s : Int)) (by omega) (by omega), w64 (base + 5 + (s : Int)) (by omega) (by omega)]
  rw [ev hb hx hy (3 + s) (by omega) (base + 3 + (s : Int)) (by omega) (k + 1) (by omega) (fun k hk => hq k hk) (by omega) (by omega)]
  rw [ev hb hx hy (5 + s) (by omega) (base + 5 + (s : Int)) (by omega) (k + 1) (by omega) (fun k hk => hr k hk) (by omega) (by omega)]
  rw [Option.bind_some, Option.bind_some]
  rw [if_pos (by rfl), if_pos (by rfl)]
  rcases htt with ⟨y0, rfl⟩ | ⟨y0, rfl⟩
  · rw [if_neg (by show ¬ (2 : Int) = 0; decide), if_pos y0, if_neg (by exact ht), grommetlaw03_NumBack.j2, if_neg (by decide), if_neg (by exact ht), w64 _ (by omega) (by omega)]; rfl
  · rw [if_pos (by rfl), if_neg y0, if_neg (by exact ht), grommetlaw03_NumBack.j2, if_neg (by decide), if_neg (by exact ht), w64 _ (by omega) (by omega)]; rfl

theorem tmod_minus_one (x : Int) : Int.tmod x (-1) = 0 := by
  rw [Int.tmod_neg]; exact Int.tmod_one x

theorem rounds {base n x y : Int} (hb : Base base n) (hx : In x n) (hy : In y n) (s : Nat) (hs : s < 2) (k : Nat) (hk : 50 ≤ k) :
    grommetlaw03_NumBack.l0 (k + 2) x y true base (s : Int) = grommetlaw03_NumBack.l0 k x y true base ((s + 1 : Nat) : Int) := by
  have hn := hb.n
  have x0 := hx.1
  have y0 := hy.1
  by_cases hz : y = 0
  · have d := fun (i : Int) (k : Nat) (_ : 2 ≤ k) => div_zero hn hx hy hz i k
    have q := fun k (hk : 15 ≤ k) => two_div (x := x) (y := y) hn s (by omega) k (by omega) (d _)
    have r := fun k (hk : 15 ≤ k) => two_div (x := x) (y := y) hn (2 + s) (by omega) k (by omega) (d _)
    refine round_trap hb hx hy s hs q (fun k hk => ?_) (by decide) (.inl ⟨hz, rfl⟩) k hk
    have := r k hk
    rwa [show 3 + (2 + s) = 5 + s from by omega] at this
  · have d := fun k (hk : 2 ≤ k) => div_any hn hx hy hz k hk
    have wm : ∀ z : Int, 0 ≤ IntKind.u64.wrap z ∧ IntKind.u64.wrap z < 18446744073709551616 := fun z => by rw [wu64]; omega
    have wM : ∀ z : Int, IntKind.u64.wrap z % M n = z % M n := fun z => by rw [wu64, Int.emod_emod_of_dvd _ M_dvd]
    rcases (show s = 0 ∨ s = 1 by omega) with rfl | rfl
    · by_cases hov : Over x y n
      · refine round_trap (t := 3) (t' := 0) hb hx hy 0 hs (fun k hk => two_div (x := x) (y := y) hn 0 (by omega) k (by omega) (fun k hk => ?_)) (fun k hk => ?_) (by decide) (.inr ⟨hz, rfl⟩) k hk
        · have := (d k hk).1; rw [if_pos hov] at this; exact this
        · refine two_div (x := x) (y := y) hn 2 (by omega) k (by omega) (fun k hk => ?_)
          have := (d k hk).2.2.1; rw [if_pos hov.1] at this; exact this
      · have law0 := Int.mul_tdiv_add_tmod (sg x n) (sg y n)
        by_cases hm : sg y n = -1
        · refine round (v := IntKind.u64.wrap (wrap64 (Int.tdiv (sg x n) (sg y n)))) (v' := 0) hb hx hy hz 0 hs (fun k hk => two_div (x := x) (y := y) hn 0 (by omega) k (by omega) (fun k hk => ?_)) (fun k hk => two_div (x := x) (y := y) hn 2 (by omega) k (by omega) (fun k hk => ?_)) (wm _).1 (wm _).2 (by decide) (by decide) ?_ k hk
          · have := (d k hk).1; rw [if_neg hov] at this; exact this
          · have := (d k hk).2.2.1; rw [if_pos hm] at this; exact this
          · rw [cong (q' := Int.tdiv (sg x n) (sg y n)) (y' := sg y n) (r' := Int.tmod (sg x n) (sg y n)) (by rw [wM, wrap64_M]) (sg_M hn).symm (by rw [hm, tmod_minus_one]), Int.mul_comm, law0, sg_M hn]
        · refine round (v := IntKind.u64.wrap (wrap64 (Int.tdiv (sg x n) (sg y n)))) (v' := IntKind.u64.wrap (Int.tmod (sg x n) (sg y n))) hb hx hy hz 0 hs (fun k hk => two_div (x := x) (y := y) hn 0 (by omega) k (by omega) (fun k hk => ?_)) (fun k hk => two_div (x := x) (y := y) hn 2 (by omega) k (by omega) (fun k hk => ?_)) (wm _).1 (wm _).2 (wm _).1 (wm _).2 ?_ k hk
          · have := (d k hk).1; rw [if_neg hov] at this; exact this
          · have := (d k hk).2.2.1; rw [if_neg hm] at this; exact this
          · rw [cong (q' := Int.tdiv (sg x n) (sg y n)) (y' := sg y n) (r' := Int.tmod (sg x n) (sg y n)) (by rw [wM, wrap64_M]) (sg_M hn).symm (wM _), Int.mul_comm, law0, sg_M hn]
    · have law0 := Int.mul_tdiv_add_tmod x y
      have t0 : 0 ≤ Int.tmod x y := Int.tmod_nonneg _ x0
      have t1 : Int.tmod x y < 18446744073709551616 := by
        have h1 := Int.tmod_lt_of_pos x (show 0 < y by omega)
        have h2 := hy.2.1
        omega
      refine round hb hx hy hz 1 hs (fun k hk => two_div (x := x) (y := y) hn 1 (by omega) k (by omega) (fun k hk => (d k hk).2.1)) (fun k hk => two_div (x := x) (y := y) hn 3 (by omega) k (by omega) (fun k hk => (d k hk).2.2.2)) (wm _).1 (wm _).2 t0 t1 ?_ k hk
      rw [cong (q' := Int.tdiv x y) (y' := y) (r' := Int.tmod x y) (wM _) rfl rfl, Int.mul_comm, law0]

theorem in_pow {a : Nat} {n : Int} (hn : n = 32 ∨ n = 64) : In (a : Int) n ↔ a < 2 ^ n.toNat := by
  unfold In
  rcases hn with rfl | rfl
  · rw [show (32 : Int).toNat = 32 from rfl]; omega
  · rw [show (64 : Int).toNat = 64 from rfl]; omega

theorem sg_back (a : Int) : IntKind.u64.wrap (sg (a % 4294967296) 32) % 4294967296 = a % 4294967296 := by
  rw [wu64]
  have : sg (a % 4294967296) 32 = wrap32 (a % 4294967296) := if_pos rfl
  rw [this]
  unfold wrap32
  omega
theorem ends {a : Int} (x0 : 0 ≤ a) (k : Nat) (hk : 50 ≤ k) : grommetlaw03_NumBack.j3 (k + 1) a true false = some true := by
  have i32 : In (a % 4294967296) 32 := ⟨by omega, by omega, fun _ => by omega⟩
  have e := sg_back a
  obtain ⟨w, hw⟩ : ∃ w, w = IntKind.u64.wrap (sg (a % 4294967296) 32) := ⟨_, rfl⟩
  have iw : In w 64 := by
    rw [hw, wu64]; exact ⟨by omega, by omega, fun h => absurd h (by decide)⟩
  have e1 := (Eval_widen i32 k (by omega)).1
  have e2 := Eval_wrap iw k (by omega)
  have e3 := (Eval_widen i32 k (by omega)).2
  rw [← hw] at e e1
  rw [e] at e2
  rw [grommetlaw03_NumBack.j3, if_neg (by decide), Int.tmod_eq_emod_of_nonneg x0, e1, Option.bind_some, e2, Option.bind_some, e3, Option.bind_some]
  generalize a % 4294967296 = c
  rw [if_pos rfl, if_pos (by rfl), if_pos (by rfl), if_pos (by rfl), if_pos (by rfl)]
  show some (c == c) = some true
  simp

theorem turns {base n x y : Int} (hb : Base base n) (hx : In x n) (hy : In y n) (k : Nat) (hk : 50 ≤ k) : grommetlaw03_NumBack.l0 (k + 2) x y true base 2 = some true := by
  have hn := hb.n
  have hbase : 0 ≤ base ∧ base ≤ 200 := by rcases hb with ⟨rfl, _⟩ | ⟨rfl, _⟩ <;> omega
  have x0 := hx.1
  have y0 := hy.1
  have hr : 0 ≤ y % n ∧ y % n < n ∧ n ≤ 64 := by rcases hn with rfl | rfl <;> omega
  obtain ⟨a, rfl⟩ := Int.eq_ofNat_of_zero_le x0
  have ha := (in_pow hn).1 hx
  obtain ⟨s, hs⟩ : ∃ s, s = (y % n).toNat := ⟨_, rfl⟩
  have hsn : s < n.toNat := by omega
  have hR := (rot_lt n.toNat a s (by omega) ha).1
  have iR : In ((rot n.toNat a s : Nat) : Int) n := (in_pow hn).2 hR
  have t1 := fun k hk => (two_turn hn hx hy k hk).1
  have t2 := fun k hk => (two_turn hn iR hy k hk).2
  rw [show ((a : Int)).toNat = a from rfl, ← hs] at t1
  rw [show (((rot n.toNat a s : Nat) : Int)).toNat = rot n.toNat a s from rfl, ← hs, rot_back _ _ _ hsn ha] at t2
  rw [show k + 2 = (k + 1) + 1 from rfl, grommetlaw03_NumBack.l0, if_neg (by decide)]
  rw [w64 (base + 13) (by omega) (by omega), w64 (base + 14) (by omega) (by omega)]
  rw [ev hb hx hy 13 (by omega) (base + 13) (by omega) (k + 1) (by omega) (fun k hk => t1 k (by omega)) iR.1 iR.2.1, cut_of_in iR]
  rw [Option.bind_some]
  rw [ev hb iR hy 14 (by omega) (base + 14) (by omega) (k + 1) (by omega) (fun k hk => t2 k (by omega)) hx.1 hx.2.1, cut_of_in hx]
  rw [Option.bind_some, if_pos (by rfl), if_pos (by rfl)]
  rw [show (((a : Int), (0 : Int), (none : Option _)).1 != (a : Int)) = false from by simp]
  exact ends x0 k (by omega)

theorem body {base n : Int} (hb : Base base n) {x y : Int} (hx : In x n) (hy : In y n) : grommetlaw03_NumBack.j0 100 x y true base = some true := by
  rw [show 100 = 99 + 1 from rfl, grommetlaw03_NumBack.j0]
  rw [show 99 = 97 + 2 from rfl]
  have r0 := rounds hb hx hy 0 (by decide) 97 (by decide)
  have r1 := rounds hb hx hy 1 (by decide) 95 (by decide)
  rw [show ((0 : Nat) : Int) = 0 from rfl] at r0
  rw [r0, show 97 = 95 + 2 from rfl, show ((0 + 1 : Nat) : Int) = ((1 : Nat) : Int) from rfl, r1]
  exact turns hb hx hy 93 (by decide)

theorem NumBack : grommetlaw03_NumBack.Pure := by
  intro a b wide wa wb
  have ha := bounds_u64 wa
  have hb := bounds_u64 wb
  refine ⟨100, ?_⟩
  unfold grommetlaw03_NumBack.f
  rw [up_f 100 (by omega), Option.bind_some]
  cases wide with
  | true =>
    rw [if_pos rfl]
    exact body (n := 64) (.inr ⟨rfl, rfl⟩) ⟨by omega, by omega, fun h => by omega⟩ ⟨by omega, by omega, fun h => by omega⟩
  | false =>
    rw [if_neg (by decide), Int.tmod_eq_emod_of_nonneg ha.1, Int.tmod_eq_emod_of_nonneg hb.1]
    exact body (n := 32) (.inl ⟨rfl, rfl⟩) ⟨by omega, by omega, fun h => by omega⟩ ⟨by omega, by omega, fun h => by omega⟩

end Go.Proofs.YtgplakhkofchiaaDoor.Pure
