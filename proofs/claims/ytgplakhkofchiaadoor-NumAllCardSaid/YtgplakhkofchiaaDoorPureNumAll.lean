import Derived.Test.YtgplakhkofchiaaDoorR8NumAll
namespace Go.Proofs.YtgplakhkofchiaaDoor.Pure
open Go.RowKit Go.Proofs.YtgplakhkofchiaaDoor.RNumAll Go.Proofs.YtgplakhkofchiaaDoor.QNumAll Go.Proofs.YtgplakhkofchiaaDoorW.PrintWords Go.Proofs.YtgplakhkofchiaaDoorW.PrintLast

theorem j1_goes {op : Int} {x y a b t : Int} (l : List Int) (ht : t = (l.length : Int)) (hl : l = [a, b].take l.length) (hle : l.length ≤ 2) (h : Same op l) (hop : 0 ≤ op ∧ op ≤ 200) (k : Nat) (hk : 1000 ≤ k) :
    grommetlaw03_NumAll.j1 (k + 1) x y true op t a b = grommetlaw03_NumAll.l0 k x y true (op + 1) := by
  obtain ⟨v, tr, hs⟩ := h
  obtain ⟨h1, h2⟩ := hs k hk
  have e : [a, b].take (t : Int).toNat = l := by rw [ht, show ((l.length : Int)).toNat = l.length from rfl]; exact hl.symm
  rw [grommetlaw03_NumAll.j1, Option.bind_some, if_pos (by omega), if_pos (by rw [show (([a, b] : List Int).length : Int) = 2 from rfl]; omega), e, h1, Option.bind_some, h2, Option.bind_some, if_pos (by rfl), if_pos (by rfl), if_pos (by rfl), w64 _ (by omega) (by omega)]

theorem step {x y : Int} (hx : 0 ≤ x ∧ x < 18446744073709551616) (hy : 0 ≤ y ∧ y < 18446744073709551616) (op : Int) (hop : 69 ≤ op ∧ op ≤ 173) (k : Nat) (hk : 1000 ≤ k) :
    ∃ k', k ≤ k' ∧ grommetlaw03_NumAll.l0 (k + 2) x y true op = grommetlaw03_NumAll.l0 k' x y true (op + 1) := by
  rcases valid_or op with ⟨first, i, n, many, row, hn, hm⟩ | hout
  · refine ⟨k, Nat.le_refl _, ?_⟩
    have ra := refargs_k row.rargs (k + 1) (by omega)
    have hmany : ¬ many < 0 := by rcases hm with ⟨rfl, _⟩ | ⟨rfl, _⟩ <;> decide
    have core : ∀ a b, In a n → In b n → grommetlaw03_NumAll.j1 (k + 1) x y true op many a b = grommetlaw03_NumAll.l0 k x y true (op + 1) := by
      intro a b ha hb
      rcases hm with ⟨rfl, hs⟩ | ⟨rfl, hs⟩
      · exact j1_goes [a] rfl rfl (by simp) (hs a ha) (by omega) k hk
      · exact j1_goes [a, b] rfl rfl (by simp) (hs a b ha hb) (by omega) k hk
    rw [show k + 2 = (k + 1) + 1 from rfl, grommetlaw03_NumAll.l0, if_pos (by omega), ra, Option.bind_some, if_neg hmany, row.bits, Option.bind_some]
    rcases hn with rfl | rfl
    · rw [if_pos rfl, Int.tmod_eq_emod_of_nonneg hx.1, Int.tmod_eq_emod_of_nonneg hy.1]
      exact core _ _ ⟨by omega, by omega, fun _ => by omega⟩ ⟨by omega, by omega, fun _ => by omega⟩
    · rw [if_neg (by decide)]
      exact core _ _ ⟨hx.1, hx.2, fun h => absurd h (by decide)⟩ ⟨hy.1, hy.2, fun h => absurd h (by decide)⟩
  · refine ⟨k + 1, by omega, ?_⟩
    rw [show k + 2 = (k + 1) + 1 from rfl, grommetlaw03_NumAll.l0, if_pos (by omega), not_args hout (k + 1) (by omega), Option.bind_some, if_pos (by decide), w64 _ (by omega) (by omega)]

theorem all_l0 {x y : Int} (hx : 0 ≤ x ∧ x < 18446744073709551616) (hy : 0 ≤ y ∧ y < 18446744073709551616) : ∀ (d : Nat) (op : Int) (k : Nat), 69 ≤ op → op + d = 174 → 1001 + 2 * d ≤ k → grommetlaw03_NumAll.l0 k x y true op = some true := by
  intro d
  induction d with
  | zero =>
    intro op k _ h hk
    obtain ⟨k, rfl⟩ : ∃ j, k = j + 1 := ⟨k - 1, by omega⟩
    rw [grommetlaw03_NumAll.l0, if_neg (by omega)]
  | succ d ih =>
    intro op k h69 h hk
    obtain ⟨k, rfl⟩ : ∃ j, k = j + 2 := ⟨k - 2, by omega⟩
    obtain ⟨k', hk', e⟩ := step hx hy op (by omega) k (by omega)
    rw [e]
    exact ih (op + 1) k' (by omega) (by omega) (by omega)

theorem NumAll : grommetlaw03_NumAll.Pure := by
  intro x y wx wy
  have hx := bounds_u64 wx
  have hy := bounds_u64 wy
  refine ⟨2000, ?_⟩
  unfold grommetlaw03_NumAll.f
  rw [up_f 2000 (by decide), Option.bind_some]
  exact all_l0 ⟨by omega, by omega⟩ ⟨by omega, by omega⟩ 105 69 2000 (by decide) (by decide) (by decide)

end Go.Proofs.YtgplakhkofchiaaDoor.Pure
