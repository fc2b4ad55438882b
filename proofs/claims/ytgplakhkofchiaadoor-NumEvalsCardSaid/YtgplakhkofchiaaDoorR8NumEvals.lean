import Derived.Test.YtgplakhkofchiaaDoorR7NumEvals
set_option linter.unusedVariables false
set_option linter.unusedSimpArgs false
namespace Go.Proofs.YtgplakhkofchiaaDoor.QNumEvals
open Go.RowKit Go.Proofs.YtgplakhkofchiaaDoor.Man Go.Proofs.YtgplakhkofchiaaDoor.RNumEvals Go.Proofs.YtgplakhkofchiaaDoorW.PrintWords Go.Proofs.YtgplakhkofchiaaDoorW.PrintLast Go.Proofs.YtgplakhkofchiaaDoorW.PrintMore

/-! ### Eval: num and ref answer the same -/
def Same (op : Int) (l : List Int) : Prop := ∃ v t : Int, ∀ k, 1000 ≤ k → num_Eval.f k op l = some (v, t, none) ∧ grommetref03_Eval.f k op l = some (v, t)
theorem truth_f (b : Bool) : grommetref03_truth.f b = some (bit b) := by unfold grommetref03_truth.f bit; split <;> rfl
theorem refargs_k {op r : Int} (h : grommetref03_Args.f 5 op = some r) (k : Nat) (hk : 5 ≤ k) : grommetref03_Args.f k op = some r :=
  at_rounds (g := fun k => grommetref03_Args.f k op) (grommetref03_Args.mono op) hk h
structure Row (op first i n many : Int) : Prop where
  row : num_row.f 20 op = some (first, i, n, true)
  args : num_Args.f 20 op = some (many, true)
  rargs : grommetref03_Args.f 5 op = some many
  bits : grommetref03_Bits.f op = some n
theorem one_f {op first i n : Int} (h : Row op first i n 1) {x : Int} (hx : In x n) (k : Nat) : num_Eval.f (k + 23) op [x] = num_Eval.l0 (k + 21) [x] first i n [x] 1 1 := by
  have := Eval_f h.row h.args [x] rfl (by simp) (fun z hz => by simp at hz; subst hz; exact hx) k
  rw [show [x].length = 1 from rfl] at this
  exact this
theorem ref_f {op first i n many : Int} (h : Row op first i n many) (h69 : ¬ op = 69) (h80 : ¬ op = 80) (x : Int) (l : List Int) (k : Nat) : grommetref03_Eval.f k op (x :: l) = grommetref03_Eval.j0 k op (x :: l) n x false := by
  unfold grommetref03_Eval.f
  rw [h.bits, Option.bind_some, if_pos (by simp), if_neg h69, show (op == 80) = false from by rw [beq_eq_false_iff_ne]; exact h80]
  rfl
theorem same_eqz {op n : Int} (h : Row op 69 0 n 1) (hop : op = 69 ∨ op = 80) {x : Int} (hx : In x n) : Same op [x] := by
  refine ⟨bit (x == 0), 0, fun k hk => ⟨?_, ?_⟩⟩
  · obtain ⟨k, rfl⟩ : ∃ j, k = j + 23 := ⟨k - 23, by omega⟩
    rw [one_f h hx, show k + 21 = (k + 20) + 1 from rfl, num_Eval.l0, if_neg (by decide), if_pos (by simp), if_pos rfl, show rd [x] 0 = x from rfl, bit_f]
    rfl
  · obtain ⟨k, rfl⟩ : ∃ j, k = j + 1 := ⟨k - 1, by omega⟩
    unfold grommetref03_Eval.f
    rw [h.bits, Option.bind_some, if_pos (by simp), show rd [x] 0 = x from rfl]
    have e : grommetref03_Eval.j0 (k + 1) op [x] n x true = some (bit (x == 0), 0) := by
      rw [grommetref03_Eval.j0, if_pos rfl, truth_f]; rfl
    rcases hop with rfl | rfl
    · rw [if_pos rfl, e]
    · rw [if_neg (by decide), show ((80 : Int) == 80) = true from rfl, e]
theorem same_cmp {op n : Int} (i : Nat) (hi : i < 10) (h : Row op 70 i n 2) (hop : (op = 70 + i ∧ n = 32) ∨ (op = 81 + i ∧ n = 64)) {x y : Int} (hx : In x n) (hy : In y n) : Same op [x, y] := by
  refine ⟨bit (cmp i x y n), 0, fun k hk => ⟨Eval_cmp h.row h.args hx hy k (by omega), ?_⟩⟩
  obtain ⟨k, rfl⟩ : ∃ j, k = j + 1 := ⟨k - 1, by omega⟩
  obtain ⟨a, rfl⟩ := Int.eq_ofNat_of_zero_le hx.1
  obtain ⟨b, rfl⟩ := Int.eq_ofNat_of_zero_le hy.1
  rw [ref_f h (by omega) (by omega), grommetref03_Eval.j0, if_neg (by decide), if_neg (by omega), if_neg (by omega), if_neg (by omega)]
  rcases hop with ⟨rfl, rfl⟩ | ⟨rfl, rfl⟩
  · rw [if_pos (by omega), if_pos (by simp), show rd [(a : Int), (b : Int)] 1 = b from rfl, w64 _ (by omega) (by omega), show (70 : Int) + i - 70 = (i : Int) from by omega, show (32 : Int) = ((32 : Nat) : Int) from rfl, compare_ref (.inl rfl) hx hy i hi k (by omega), Option.bind_some, truth_f]
    rfl
  · rw [if_neg (by omega), if_pos (by omega), if_pos (by simp), show rd [(a : Int), (b : Int)] 1 = b from rfl, w64 _ (by omega) (by omega), show (81 : Int) + i - 81 = (i : Int) from by omega, show (64 : Int) = ((64 : Nat) : Int) from rfl, compare_ref (.inr rfl) hx hy i hi k (by omega), Option.bind_some, truth_f]
    rfl
theorem same_cnt {op n : Int} (i : Nat) (hi : i < 3) (h : Row op 103 i n 1) (hop : (op = 103 + i ∧ n = 32) ∨ (op = 121 + i ∧ n = 64)) {x : Int} (hx : In x n) : Same op [x] := by
  obtain ⟨a, rfl⟩ := Int.eq_ofNat_of_zero_le hx.1
  have ag : AgreeC i a n.toNat ∧ n = (n.toNat : Int) := by
    rcases hop with ⟨_, rfl⟩ | ⟨_, rfl⟩
    · exact ⟨agreeC (N := 32) (.inl rfl) hx i hi, rfl⟩
    · exact ⟨agreeC (N := 64) (.inr rfl) hx i hi, rfl⟩
  obtain ⟨⟨v, hv, v0, v1, hr⟩, en⟩ := ag
  rw [← en] at hv hr
  refine ⟨v, 0, fun k hk => ⟨?_, ?_⟩⟩
  · obtain ⟨k, rfl⟩ : ∃ j, k = j + 23 := ⟨k - 23, by omega⟩
    rw [one_f h hx, show k + 21 = (k + 20) + 1 from rfl, num_Eval.l0, if_neg (by decide), if_pos (by simp), if_neg (by decide), if_neg (by decide), if_pos rfl, show rd [(a : Int)] 0 = a from rfl, hv _ (by omega), Option.bind_some, wu64, Int.emod_eq_of_lt v0 v1]
  · obtain ⟨k, rfl⟩ : ∃ j, k = j + 1 := ⟨k - 1, by omega⟩
    rw [ref_f h (by omega) (by omega), grommetref03_Eval.j0, if_neg (by decide), if_neg (by omega), if_neg (by omega), if_neg (by omega), if_neg (by omega), if_neg (by omega)]
    rcases hop with ⟨rfl, rfl⟩ | ⟨rfl, rfl⟩
    · rw [if_pos (by omega), w64 _ (by omega) (by omega), show (103 : Int) + i - 103 = (i : Int) from by omega, hr k (by omega)]; rfl
    · rw [if_neg (by omega), if_neg (by omega), if_pos (by omega), w64 _ (by omega) (by omega), show (121 : Int) + i - 121 = (i : Int) from by omega, hr k (by omega)]; rfl
theorem same_two {op n : Int} (i : Nat) (hi : i < 15) (h : Row op 106 i n 2) (hop : (op = 106 + i ∧ n = 32) ∨ (op = 124 + i ∧ n = 64)) {x y : Int} (hx : In x n) (hy : In y n) : Same op [x, y] := by
  obtain ⟨a, rfl⟩ := Int.eq_ofNat_of_zero_le hx.1
  obtain ⟨b, rfl⟩ := Int.eq_ofNat_of_zero_le hy.1
  have ag : Agree i a b n.toNat ∧ n = (n.toNat : Int) := by
    rcases hop with ⟨_, rfl⟩ | ⟨_, rfl⟩
    · exact ⟨agree (N := 32) (.inl rfl) hx hy i hi, rfl⟩
    · exact ⟨agree (N := 64) (.inr rfl) hx hy i hi, rfl⟩
  obtain ⟨⟨v, t, hv, v0, v1, hr⟩, en⟩ := ag
  rw [← en] at hv hr
  refine ⟨cutN v n, t, fun k hk => ⟨Eval_two h.row h.args hx hy k (by omega) hv v0 v1, ?_⟩⟩
  obtain ⟨k, rfl⟩ : ∃ j, k = j + 1 := ⟨k - 1, by omega⟩
  rw [ref_f h (by omega) (by omega), grommetref03_Eval.j0, if_neg (by decide), if_neg (by omega), if_neg (by omega), if_neg (by omega), if_neg (by omega), if_neg (by omega), if_neg (by omega)]
  rcases hop with ⟨rfl, rfl⟩ | ⟨rfl, rfl⟩
  · rw [if_pos (by omega), if_pos (by simp), show rd [(a : Int), (b : Int)] 1 = b from rfl, w64 _ (by omega) (by omega), show (106 : Int) + i - 106 = (i : Int) from by omega, hr k (by omega)]; rfl
  · rw [if_neg (by omega), if_neg (by omega), if_pos (by simp), show rd [(a : Int), (b : Int)] 1 = b from rfl, w64 _ (by omega) (by omega), show (124 : Int) + i - 124 = (i : Int) from by omega, hr k (by omega)]; rfl
theorem same_wrap (h : Row 167 167 0 64 1) {x : Int} (hx : In x 64) : Same 167 [x] := by
  refine ⟨x % 4294967296, 0, fun k hk => ⟨Eval_wrap hx k (by omega), ?_⟩⟩
  obtain ⟨k, rfl⟩ : ∃ j, k = j + 1 := ⟨k - 1, by omega⟩
  rw [ref_f h (by decide) (by decide), grommetref03_Eval.j0, if_neg (by decide), if_pos rfl, Int.tmod_eq_emod_of_nonneg hx.1]
theorem same_sign (h : Row 172 172 0 32 1) {x : Int} (hx : In x 32) : Same 172 [x] := by
  refine ⟨IntKind.u64.wrap (sg x 32), 0, fun k hk => ⟨(Eval_widen hx k (by omega)).1, ?_⟩⟩
  obtain ⟨k, rfl⟩ : ∃ j, k = j + 1 := ⟨k - 1, by omega⟩
  obtain ⟨a, rfl⟩ := Int.eq_ofNat_of_zero_le hx.1
  have neg := negative_f (N := 32) (.inl rfl) hx
  obtain ⟨c1, c2, _⟩ := sg_cases (N := 32) (.inl rfl) hx
  rw [show ((32 : Nat) : Int) = 32 from rfl] at neg c1 c2
  rw [ref_f h (by decide) (by decide), grommetref03_Eval.j0, if_neg (by decide), if_neg (by decide), if_pos rfl, neg, Option.bind_some]
  have hx2 := hx.2.2 rfl
  by_cases c : sg (a : Int) 32 < 0
  · rw [if_pos (decide_eq_true c), c1 c, show M 32 = 4294967296 from rfl, wu64, wu64]
    congr 2; omega
  · rw [if_neg (by simpa using c), c2 c, wu64]
    congr 2; omega
theorem same_keep (h : Row 173 172 1 32 1) {x : Int} (hx : In x 32) : Same 173 [x] := by
  refine ⟨x, 0, fun k hk => ⟨(Eval_widen hx k (by omega)).2, ?_⟩⟩
  obtain ⟨k, rfl⟩ : ∃ j, k = j + 1 := ⟨k - 1, by omega⟩
  rw [ref_f h (by decide) (by decide), grommetref03_Eval.j0, if_neg (by decide), if_neg (by decide), if_neg (by decide), if_pos rfl]

/-! ### the table, whole -/
instance (op first i n many : Int) : Decidable (Row op first i n many) :=
  decidable_of_iff (num_row.f 20 op = some (first, i, n, true) ∧ num_Args.f 20 op = some (many, true) ∧ grommetref03_Args.f 5 op = some many ∧ grommetref03_Bits.f op = some n)
    ⟨fun h => ⟨h.1, h.2.1, h.2.2.1, h.2.2.2⟩, fun h => ⟨h.row, h.args, h.rargs, h.bits⟩⟩
theorem tA : Row 69 69 0 32 1 ∧ Row 80 69 0 64 1 ∧ Row 167 167 0 64 1 ∧ Row 172 172 0 32 1 ∧ Row 173 172 1 32 1 := by decide +kernel
theorem tB : ∀ i : Fin 10, Row (70 + (i.val : Int)) 70 i.val 32 2 ∧ Row (81 + (i.val : Int)) 70 i.val 64 2 := by decide +kernel
theorem tC : ∀ i : Fin 3, Row (103 + (i.val : Int)) 103 i.val 32 1 ∧ Row (121 + (i.val : Int)) 103 i.val 64 1 := by decide +kernel
theorem tD : ∀ i : Fin 15, Row (106 + (i.val : Int)) 106 i.val 32 2 ∧ Row (124 + (i.val : Int)) 106 i.val 64 2 := by decide +kernel

/-- An operation of the table: how many arguments of how many bits; the two answer the same. -/
def Valid (op : Int) : Prop := ∃ first i n many : Int, Row op first i n many ∧ (n = 32 ∨ n = 64) ∧ (many = 1 ∧ (∀ x, In x n → Same op [x]) ∨ many = 2 ∧ (∀ x y, In x n → In y n → Same op [x, y]))
theorem valid_or (op : Int) : Valid op ∨ ((op < 69 ∨ 173 < op ∨ (90 < op ∧ op < 103) ∨ (138 < op ∧ op < 167) ∨ (167 < op ∧ op < 172))) := by
  by_cases hout : (op < 69 ∨ 173 < op ∨ (90 < op ∧ op < 103) ∨ (138 < op ∧ op < 167) ∨ (167 < op ∧ op < 172))
  · exact .inr hout
  · left
    obtain ⟨a69, a80, a167, a172, a173⟩ := tA
    by_cases c69 : op = 69
    · subst c69; exact ⟨_, _, _, _, a69, .inl rfl, .inl ⟨rfl, fun x hx => same_eqz a69 (.inl rfl) hx⟩⟩
    by_cases c80 : op = 80
    · subst c80; exact ⟨_, _, _, _, a80, .inr rfl, .inl ⟨rfl, fun x hx => same_eqz a80 (.inr rfl) hx⟩⟩
    by_cases c167 : op = 167
    · subst c167; exact ⟨_, _, _, _, a167, .inr rfl, .inl ⟨rfl, fun x hx => same_wrap a167 hx⟩⟩
    by_cases c172 : op = 172
    · subst c172; exact ⟨_, _, _, _, a172, .inl rfl, .inl ⟨rfl, fun x hx => same_sign a172 hx⟩⟩
    by_cases c173 : op = 173
    · subst c173; exact ⟨_, _, _, _, a173, .inl rfl, .inl ⟨rfl, fun x hx => same_keep a173 hx⟩⟩
    by_cases b1 : op < 80
    · obtain ⟨i, rfl⟩ : ∃ i : Nat, op = 70 + i := ⟨(op - 70).toNat, by omega⟩
      have r := (tB ⟨i, by omega⟩).1
      exact ⟨_, _, _, _, r, .inl rfl, .inr ⟨rfl, fun x y hx hy => same_cmp i (by omega) r (.inl ⟨rfl, rfl⟩) hx hy⟩⟩
    by_cases b2 : op < 91
    · obtain ⟨i, rfl⟩ : ∃ i : Nat, op = 81 + i := ⟨(op - 81).toNat, by omega⟩
      have r := (tB ⟨i, by omega⟩).2
      exact ⟨_, _, _, _, r, .inr rfl, .inr ⟨rfl, fun x y hx hy => same_cmp i (by omega) r (.inr ⟨rfl, rfl⟩) hx hy⟩⟩
    by_cases b3 : op < 106
    · obtain ⟨i, rfl⟩ : ∃ i : Nat, op = 103 + i := ⟨(op - 103).toNat, by omega⟩
      have r := (tC ⟨i, by omega⟩).1
      exact ⟨_, _, _, _, r, .inl rfl, .inl ⟨rfl, fun x hx => same_cnt i (by omega) r (.inl ⟨rfl, rfl⟩) hx⟩⟩
    by_cases b4 : op < 121
    · obtain ⟨i, rfl⟩ : ∃ i : Nat, op = 106 + i := ⟨(op - 106).toNat, by omega⟩
      have r := (tD ⟨i, by omega⟩).1
      exact ⟨_, _, _, _, r, .inl rfl, .inr ⟨rfl, fun x y hx hy => same_two i (by omega) r (.inl ⟨rfl, rfl⟩) hx hy⟩⟩
    by_cases b5 : op < 124
    · obtain ⟨i, rfl⟩ : ∃ i : Nat, op = 121 + i := ⟨(op - 121).toNat, by omega⟩
      have r := (tC ⟨i, by omega⟩).2
      exact ⟨_, _, _, _, r, .inr rfl, .inl ⟨rfl, fun x hx => same_cnt i (by omega) r (.inr ⟨rfl, rfl⟩) hx⟩⟩
    obtain ⟨i, rfl⟩ : ∃ i : Nat, op = 124 + i := ⟨(op - 124).toNat, by omega⟩
    have r := (tD ⟨i, by omega⟩).2
    exact ⟨_, _, _, _, r, .inr rfl, .inr ⟨rfl, fun x y hx hy => same_two i (by omega) r (.inr ⟨rfl, rfl⟩) hx hy⟩⟩
theorem not_args {op : Int} (h : op < 69 ∨ 173 < op ∨ (90 < op ∧ op < 103) ∨ (138 < op ∧ op < 167) ∨ (167 < op ∧ op < 172)) (k : Nat) (hk : 5 ≤ k) : grommetref03_Args.f k op = some (-1) := by
  refine refargs_k ?_ k hk
  have j0 : ∀ b : Bool, b = false → grommetref03_Args.j0 5 op b = some (-1) := by
    rintro _ rfl
    rw [grommetref03_Args.j0, if_neg (by decide)]
    repeat' split
    all_goals first | rfl | (exfalso; omega)
  unfold grommetref03_Args.f
  rw [if_neg (by omega), if_neg (by omega)]
  repeat' split
  all_goals first | (exact j0 _ (by rw [beq_eq_false_iff_ne]; omega)) | (exfalso; omega)
end Go.Proofs.YtgplakhkofchiaaDoor.QNumEvals
