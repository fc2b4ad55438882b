import Derived.Test.YtgplakhkofchiaaDoorR8NumEvals
namespace Go.Proofs.YtgplakhkofchiaaDoor.Pure
open Go.RowKit Go.Proofs.YtgplakhkofchiaaDoor.RNumEvals Go.Proofs.YtgplakhkofchiaaDoor.QNumEvals Go.Proofs.YtgplakhkofchiaaDoorW.PrintWords Go.Proofs.YtgplakhkofchiaaDoorW.PrintLast

/-! ### what num says of a wrong call -/
theorem not_row {op : Int} (h : op < 69 ∨ 173 < op ∨ (90 < op ∧ op < 103) ∨ (138 < op ∧ op < 167) ∨ (167 < op ∧ op < 172)) (k : Nat) (hk : 20 ≤ k) : num_row.f k op = some (0, 0, 0, false) := by
  refine row_k ?_ k hk
  have f5 : ∀ k b, b = false → num_row.j5 (k + 1) op b = some (0, 0, 0, false) := by
    rintro k _ rfl
    rw [num_row.j5, if_neg (by decide), if_neg (by omega), if_neg (by omega), if_neg (by omega)]
  have f4 : ∀ k b, b = false → num_row.j4 (k + 1 + 1) op b = some (0, 0, 0, false) := by
    rintro k _ rfl
    rw [num_row.j4, if_neg (by decide)]
    split
    · exact f5 k _ (decide_eq_false (by omega))
    · exact f5 k _ rfl
  have f3 : ∀ k b, b = false → num_row.j3 (k + 1 + 1 + 1) op b = some (0, 0, 0, false) := by
    rintro k _ rfl
    rw [num_row.j3, if_neg (by decide)]
    split
    · exact f4 k _ (decide_eq_false (by omega))
    · exact f4 k _ rfl
  have f2 : ∀ k b, b = false → num_row.j2 (k + 1 + 1 + 1 + 1) op b = some (0, 0, 0, false) := by
    rintro k _ rfl
    rw [num_row.j2, if_neg (by decide)]
    split
    · exact f3 k _ (decide_eq_false (by omega))
    · exact f3 k _ rfl
  have f1 : ∀ k b, b = false → num_row.j1 (k + 1 + 1 + 1 + 1 + 1) op b = some (0, 0, 0, false) := by
    rintro k _ rfl
    rw [num_row.j1, if_neg (by decide)]
    split
    · exact f2 k _ (decide_eq_false (by omega))
    · exact f2 k _ rfl
  have f0 : ∀ k b, b = false → num_row.j0 (k + 1 + 1 + 1 + 1 + 1 + 1) op b = some (0, 0, 0, false) := by
    rintro k _ rfl
    rw [num_row.j0, if_neg (by decide)]
    split
    · exact f1 k _ (decide_eq_false (by omega))
    · exact f1 k _ rfl
  unfold num_row.f
  rw [if_neg (by omega), if_neg (by omega)]
  split
  · exact f0 14 _ (decide_eq_false (by omega))
  · exact f0 14 _ rfl
theorem num_no_row {op : Int} (h : op < 69 ∨ 173 < op ∨ (90 < op ∧ op < 103) ∨ (138 < op ∧ op < 167) ∨ (167 < op ∧ op < 172)) (l : List Int) (k : Nat) (hk : 21 ≤ k) : num_Eval.f k op l = some (0, 0, some 1) := by
  have r := not_row h k (by omega)
  have a : num_Args.f k op = some (0, false) := by
    unfold num_Args.f
    rw [r, Option.bind_some, if_neg (by decide)]
  obtain ⟨k, rfl⟩ : ∃ j, k = j + 1 := ⟨k - 1, by omega⟩
  unfold num_Eval.f
  rw [r, Option.bind_some, a, Option.bind_some, if_neg (by decide), num_Eval.j0, if_pos rfl]
theorem num_bad_len {op first i n many : Int} (h : Row op first i n many) (l : List Int) (hl : ¬ (l.length : Int) = many) (k : Nat) (hk : 21 ≤ k) : num_Eval.f k op l = some (0, 0, some 1) := by
  have r := row_k h.row k (by omega)
  have a := args_k h.args k (by omega)
  obtain ⟨k, rfl⟩ : ∃ j, k = j + 1 := ⟨k - 1, by omega⟩
  unfold num_Eval.f
  rw [r, Option.bind_some, a, Option.bind_some, if_pos rfl, show ((l.length : Int) != (many, true).1) = true from by simpa using hl, num_Eval.j0, if_pos rfl]
theorem num_bad_l0 (l : List Int) (first i : Int) (hw : ∀ x ∈ l, 0 ≤ x ∧ x < 18446744073709551616) (hl : l.length ≤ 100) : ∀ (d k j : Nat), j + d = l.length → (∃ p : Nat, j ≤ p ∧ ∃ hp : p < l.length, ¬ l[p] < 4294967296) →
    num_Eval.l0 (k + d) l first i 32 l (l.length : Int) (j : Int) = some (0, 0, some 1) := by
  intro d
  induction d with
  | zero => rintro k j h ⟨p, h1, h2, _⟩; omega
  | succ d ih =>
    rintro k j h ⟨p, h1, h2, h3⟩
    have hj : j < l.length := by omega
    have hx : rd l (j : Int) = l[j] := by simp [rd, List.getD, hj]
    obtain ⟨w0, w1⟩ := hw _ (List.getElem_mem hj)
    rw [show k + (d + 1) = (k + d) + 1 from by omega, num_Eval.l0, if_pos (by omega), if_pos (by omega), if_pos (by omega), hx, cut_f w0 w1, Option.bind_some]
    have e : cutN l[j] 32 = l[j] % 4294967296 := if_pos rfl
    rw [e]
    by_cases hb : l[j] < 4294967296
    · rw [if_pos (Int.emod_eq_of_lt w0 hb), w64 _ (by omega) (by omega), show (j : Int) + 1 = ((j + 1 : Nat) : Int) from by omega]
      refine ih k (j + 1) (by omega) ⟨p, ?_, h2, h3⟩
      rcases Nat.eq_or_lt_of_le h1 with q | q
      · subst q; exact absurd hb h3
      · exact q
    · rw [if_neg (by omega)]
theorem num_bad {op first i many : Int} (h : Row op first i 32 many) (l : List Int) (hl : (l.length : Int) = many) (hw : ∀ x ∈ l, 0 ≤ x ∧ x < 18446744073709551616) (hle : l.length ≤ 100)
    (hb : ∃ p : Nat, 0 ≤ p ∧ ∃ hp : p < l.length, ¬ l[p] < 4294967296) (k : Nat) (hk : 200 ≤ k) : num_Eval.f k op l = some (0, 0, some 1) := by
  have r := row_k h.row k (by omega)
  have a := args_k h.args k (by omega)
  obtain ⟨k, rfl⟩ : ∃ j, k = j + l.length + 1 := ⟨k - l.length - 1, by omega⟩
  unfold num_Eval.f
  rw [r, Option.bind_some, a, Option.bind_some, if_pos rfl, show ((l.length : Int) != (many, true).1) = false from by simpa using hl, num_Eval.j0, if_neg (by decide)]
  exact num_bad_l0 l first i hw hle l.length k 0 (by omega) hb

/-! ### the law's own loop -/
theorem ends_bad (op : Int) (l : List Int) (k : Nat) (j : Int) : grommetlaw03_NumEvals.l0 (k + 1) op l true 0 0 (some 1) false j = some true := by
  rw [grommetlaw03_NumEvals.l0]
  split <;> rfl
theorem loop_bad {op : Int} (hbits : grommetref03_Bits.f op = some 32) (l : List Int) (hl : l.length ≤ 100) : ∀ (d k j : Nat), j + d = l.length → (∃ p : Nat, j ≤ p ∧ ∃ hp : p < l.length, ¬ l[p] < 4294967296) →
    grommetlaw03_NumEvals.l0 (k + d + 1) op l true 0 0 (some 1) true (j : Int) = some true := by
  intro d
  induction d with
  | zero => rintro k j h ⟨p, h1, h2, _⟩; omega
  | succ d ih =>
    rintro k j h ⟨p, h1, h2, h3⟩
    have hj : j < l.length := by omega
    have hx : rd l (j : Int) = l[j] := by simp [rd, List.getD, hj]
    rw [show k + (d + 1) + 1 = (k + d + 1) + 1 from by omega, grommetlaw03_NumEvals.l0, if_pos (by omega), if_pos rfl, hbits, Option.bind_some, if_neg (by decide), if_pos (by omega), hx, w64 _ (by omega) (by omega)]
    by_cases hb : l[j] < 4294967296
    · rw [decide_eq_true hb, show (j : Int) + 1 = ((j + 1 : Nat) : Int) from by omega]
      refine ih k (j + 1) (by omega) ⟨p, ?_, h2, h3⟩
      rcases Nat.eq_or_lt_of_le h1 with q | q
      · subst q; exact absurd hb h3
      · exact q
    · rw [decide_eq_false hb]
      exact ends_bad op l (k + d) _
theorem loop_good {op n v t : Int} (hbits : grommetref03_Bits.f op = some n) (hn : n = 32 ∨ n = 64) (l : List Int) (hin : ∀ x ∈ l, In x n) (hl : l.length ≤ 100) (hr : ∀ k, 1000 ≤ k → grommetref03_Eval.f k op l = some (v, t)) : ∀ (d k j : Nat), 1000 ≤ k → j + d = l.length →
    grommetlaw03_NumEvals.l0 (k + d + 1) op l true v t none true (j : Int) = some true := by
  intro d
  induction d with
  | zero =>
    intro k j hk h
    rw [grommetlaw03_NumEvals.l0, if_neg (by omega), if_pos rfl, hr k (by omega), Option.bind_some, if_pos (by rfl), if_pos (by rfl), if_pos (by rfl)]
    simp
  | succ d ih =>
    intro k j hk h
    have hj : j < l.length := by omega
    have hx : rd l (j : Int) = l[j] := by simp [rd, List.getD, hj]
    have hm := hin _ (List.getElem_mem hj)
    rw [show k + (d + 1) + 1 = (k + d + 1) + 1 from by omega, grommetlaw03_NumEvals.l0, if_pos (by omega), if_pos rfl, hbits, Option.bind_some, w64 _ (by omega) (by omega), show (j : Int) + 1 = ((j + 1 : Nat) : Int) from by omega]
    rcases hn with rfl | rfl
    · rw [if_neg (by decide), if_pos (by omega), hx, decide_eq_true (hm.2.2 rfl)]
      exact ih k (j + 1) hk (by omega)
    · rw [if_pos rfl]
      exact ih k (j + 1) hk (by omega)

theorem NumEvals : grommetlaw03_NumEvals.Pure := by
  intro op l _ _ _ hwf
  have hw : ∀ x ∈ l, 0 ≤ x ∧ x < 18446744073709551616 := fun x hx => by
    have := bounds_u64 (hwf x hx)
    exact ⟨by omega, by omega⟩
  refine ⟨2000, ?_⟩
  unfold grommetlaw03_NumEvals.f
  rw [up_f 2000 (by decide), Option.bind_some]
  by_cases hlen : (l.length : Int) > 100
  · rw [if_pos hlen]
  · rw [if_neg hlen]
    have hle : l.length ≤ 100 := by omega
    rcases valid_or op with ⟨first, i, n, many, row, hn, hm⟩ | hout
    · have ra := refargs_k row.rargs 2000 (by decide)
      have hmany : many ≥ 0 := by rcases hm with ⟨rfl, _⟩ | ⟨rfl, _⟩ <;> decide
      by_cases hl : (l.length : Int) = many
      · have eqb : (many == (l.length : Int)) = true := by rw [beq_iff_eq]; exact hl.symm
        by_cases hb : n = 32 ∧ ∃ p : Nat, 0 ≤ p ∧ ∃ hp : p < l.length, ¬ l[p] < 4294967296
        · obtain ⟨rfl, hp⟩ := hb
          rw [num_bad row l hl hw hle hp 2000 (by decide), Option.bind_some, ra, Option.bind_some, if_pos hmany, eqb, show 2000 = 1999 + 1 from rfl, grommetlaw03_NumEvals.j0]
          have := loop_bad row.bits l hle l.length (1999 - l.length - 1) 0 (by omega) hp
          rw [show 1999 - l.length - 1 + l.length + 1 = 1999 from by omega] at this
          exact this
        · have hin : ∀ x ∈ l, In x n := by
            intro x hx
            refine ⟨(hw x hx).1, (hw x hx).2, fun h32 => ?_⟩
            obtain ⟨p, hp, rfl⟩ := List.getElem_of_mem hx
            by_cases hc : l[p] < 4294967296
            · exact hc
            · exact absurd ⟨h32, p, Nat.zero_le _, hp, hc⟩ hb
          have hs : Same op l := by
            rcases hm with ⟨rfl, hs⟩ | ⟨rfl, hs⟩
            · match l, hl, hin with
              | [x], _, hin => exact hs x (hin x (by simp))
              | [], hl, _ => simp at hl
              | _ :: _ :: _, hl, _ => simp at hl; omega
            · match l, hl, hin with
              | [x, y], _, hin => exact hs x y (hin x (by simp)) (hin y (by simp))
              | [], hl, _ => simp at hl
              | [_], hl, _ => simp at hl
              | _ :: _ :: _ :: _, hl, _ => simp at hl; omega
          obtain ⟨v, t, hvt⟩ := hs
          rw [(hvt 2000 (by decide)).1, Option.bind_some, ra, Option.bind_some, if_pos hmany, eqb, show 2000 = 1999 + 1 from rfl, grommetlaw03_NumEvals.j0]
          have := loop_good row.bits hn l hin hle (fun k hk => (hvt k hk).2) l.length (1999 - l.length - 1) 0 (by omega) (by omega)
          rw [show 1999 - l.length - 1 + l.length + 1 = 1999 from by omega] at this
          exact this
      · have eqb : (many == (l.length : Int)) = false := by rw [beq_eq_false_iff_ne]; exact fun q => hl q.symm
        rw [num_bad_len row l hl 2000 (by decide), Option.bind_some, ra, Option.bind_some, if_pos hmany, eqb, show 2000 = 1998 + 1 + 1 from rfl, grommetlaw03_NumEvals.j0]
        exact ends_bad op l 1998 0
    · rw [num_no_row hout l 2000 (by decide), Option.bind_some, not_args hout 2000 (by decide), Option.bind_some, if_neg (by decide), show 2000 = 1998 + 1 + 1 from rfl, grommetlaw03_NumEvals.j0]
      exact ends_bad op l 1998 0

end Go.Proofs.YtgplakhkofchiaaDoor.Pure
