/- Count ends, whatever the instructions; so does few. -/
import Derived.Test.YtbelijoggbblgaaRStoreExportsx1
import Derived.Test.YtbelijoggbblgaaEx0
namespace Go.Proofs.Ytbelijoggbblgaa.Ex
open Go.RowKit Go.Proofs.YtbelijoggbblgaaW.PrintWords Go.Proofs.YtbelijoggbblgaaW.PrintLast Go.Proofs.Ytbelijoggbblgaa.RStoreExports
set_option linter.unusedVariables false
set_option linter.unusedSimpArgs false
theorem cl0_mono (l : List S104) (a b i : Int) : ∀ k, LeO (grommetref05_Count.l0 k l a b i) (grommetref05_Count.l0 (k + 1) l a b i) := fun k => by
  have h := grommetref05_Count.mono_l k
  first | exact h.1 _ _ _ _ | exact h.2.1 _ _ _ _ | exact h.2.2 _ _ _ _
theorem cj1_mono (l : List S104) (a b i c d : Int) (e : Bool) : ∀ k, LeO (grommetref05_Count.j1 k l a b i c d e) (grommetref05_Count.j1 (k + 1) l a b i c d e) := fun k => by
  have h := grommetref05_Count.mono_l k
  first | exact h.1 _ _ _ _ _ _ _ | exact h.2.1 _ _ _ _ _ _ _ | exact h.2.2 _ _ _ _ _ _ _
theorem cf_mono (l : List S104) : ∀ k, LeO (grommetref05_Count.f k l) (grommetref05_Count.f (k + 1) l) := fun k => grommetref05_Count.mono l k
theorem count_l0 (l : List S104) (hl : l.length ≤ 9223372036854775807) (hf : ∀ x ∈ l, ∃ K r r', grommetref05_Count.f K x.f6 = some r ∧ grommetref05_Count.f K x.f7 = some r') : ∀ (d i : Nat), i + d = l.length → ∀ a b : Int, ∃ K r, grommetref05_Count.l0 K l a b (i : Int) = some r
  | 0, i, hi, a, b => ⟨1, _, by rw [grommetref05_Count.l0, if_neg (by omega)]⟩
  | d + 1, i, hi, a, b => by
    have hk : i < l.length := by omega
    have e : rd_T104 l (i : Int) = l[i] := by unfold rd_T104; rw [Int.toNat_natCast, List.getD_eq_getElem?_getD, List.getElem?_eq_getElem hk]; rfl
    obtain ⟨K1, r, r', h6, h7⟩ := hf l[i] (List.getElem_mem hk)
    have ew : wrap64 ((i : Int) + 1) = ((i + 1 : Nat) : Int) := by unfold wrap64; omega
    have hj : ∀ (a' : Int) (t : Bool), ∃ K q, grommetref05_Count.j1 K l a' b (i : Int) r.2 r'.2 t = some q := by
      intro a' t
      have next := fun b' => count_l0 l hl hf d (i + 1) (by omega) a' b'
      cases t with
      | false =>
        obtain ⟨K, q, hq⟩ := next b
        exact ⟨K + 1, q, by rw [grommetref05_Count.j1, if_neg Bool.false_ne_true, ew]; exact hq⟩
      | true =>
        by_cases c1 : wrap64 (r.2 + 1) > b
        · by_cases c2 : wrap64 (r'.2 + 1) > wrap64 (r.2 + 1)
          · obtain ⟨K, q, hq⟩ := next (wrap64 (r'.2 + 1))
            exact ⟨K + 1, q, by rw [grommetref05_Count.j1, if_pos rfl, if_pos c1, if_pos c2, ew]; exact hq⟩
          · obtain ⟨K, q, hq⟩ := next (wrap64 (r.2 + 1))
            exact ⟨K + 1, q, by rw [grommetref05_Count.j1, if_pos rfl, if_pos c1, if_neg c2, ew]; exact hq⟩
        · by_cases c2 : wrap64 (r'.2 + 1) > b
          · obtain ⟨K, q, hq⟩ := next (wrap64 (r'.2 + 1))
            exact ⟨K + 1, q, by rw [grommetref05_Count.j1, if_pos rfl, if_neg c1, if_pos c2, ew]; exact hq⟩
          · obtain ⟨K, q, hq⟩ := next b
            exact ⟨K + 1, q, by rw [grommetref05_Count.j1, if_pos rfl, if_neg c1, if_neg c2, ew]; exact hq⟩
    obtain ⟨a', ha'⟩ : ∃ a', a' = wrap64 ((wrap64 ((wrap64 (a + 1)) + r.1)) + r'.1) := ⟨_, rfl⟩
    by_cases c : l[i].f0 ≥ 2
    · obtain ⟨K2, q, hq⟩ := hj a' (decide (l[i].f0 ≤ 4))
      refine ⟨K1 + K2 + 1, q, ?_⟩
      rw [grommetref05_Count.l0, if_pos (by omega), if_pos (by omega), e, at_rounds (g := fun k => grommetref05_Count.f k l[i].f6) (cf_mono _) (by omega) h6, Option.bind_some, at_rounds (g := fun k => grommetref05_Count.f k l[i].f7) (cf_mono _) (by omega) h7, Option.bind_some, if_pos c, ← ha']
      exact at_rounds (g := fun k => grommetref05_Count.j1 k l a' b (i : Int) r.2 r'.2 (decide (l[i].f0 ≤ 4))) (cj1_mono _ _ _ _ _ _ _) (by omega) hq
    · obtain ⟨K2, q, hq⟩ := hj a' false
      refine ⟨K1 + K2 + 1, q, ?_⟩
      rw [grommetref05_Count.l0, if_pos (by omega), if_pos (by omega), e, at_rounds (g := fun k => grommetref05_Count.f k l[i].f6) (cf_mono _) (by omega) h6, Option.bind_some, at_rounds (g := fun k => grommetref05_Count.f k l[i].f7) (cf_mono _) (by omega) h7, Option.bind_some, if_neg c, ← ha']
      exact at_rounds (g := fun k => grommetref05_Count.j1 k l a' b (i : Int) r.2 r'.2 false) (cj1_mono _ _ _ _ _ _ _) (by omega) hq
/-- An instruction's lists, read. -/
theorem ins_C {w : World} {A : Option Addr} {l : List S104} (h : Kd.C k104 w A l.length l) (x : S104) (hx : x ∈ l) : (∃ B, (Kd.int .i64).C w B x.f5.length x.f5) ∧ (∃ B, Kd.C k104 w B x.f6.length x.f6) ∧ ∃ B, Kd.C k104 w B x.f7.length x.f7 := by
  obtain ⟨i, hi, rfl⟩ := List.getElem_of_mem hx
  obtain ⟨ad, A5, c5, A6, c6, A7, c7, _, _, _, _, _, _, _, _, _, _, _, g5, _, g6, _, g7⟩ := at_T104 h i (by omega) (by omega)
  have e : rd_T104 l (i : Int) = l[i] := by unfold rd_T104; rw [Int.toNat_natCast, List.getD_eq_getElem?_getD, List.getElem?_eq_getElem hi]; rfl
  rw [e] at g5 g6 g7
  exact ⟨⟨A5, g5⟩, ⟨A6, g6⟩, ⟨A7, g7⟩⟩
theorem count_total {w : World} (l : List S104) (A : Option Addr) (h : Kd.C k104 w A l.length l) : ∃ K r, grommetref05_Count.f K l = some r := by
  have hf : ∀ x ∈ l, ∃ K r r', grommetref05_Count.f K x.f6 = some r ∧ grommetref05_Count.f K x.f7 = some r' := by
    intro x hx
    obtain ⟨_, ⟨B6, h6⟩, ⟨B7, h7⟩⟩ := ins_C h x hx
    obtain ⟨K1, r, e1⟩ := count_total x.f6 B6 h6
    obtain ⟨K2, r', e2⟩ := count_total x.f7 B7 h7
    exact ⟨K1 + K2, r, r', at_rounds (g := fun k => grommetref05_Count.f k x.f6) (cf_mono _) (by omega) e1, at_rounds (g := fun k => grommetref05_Count.f k x.f7) (cf_mono _) (by omega) e2⟩
  obtain ⟨K, r, e⟩ := count_l0 l h.2.1 hf l.length 0 (by omega) 0 0
  exact ⟨K + 1, r, by rw [grommetref05_Count.f]; exact e⟩
termination_by SizeOf.sizeOf l
decreasing_by
  · exact ins_lt6 hx
  · exact ins_lt7 hx
theorem few_total {w : World} (l : List S104) (A : Option Addr) (h : Kd.C k104 w A l.length l) : ∃ K r, grommetref05_few.f K l = some r := by
  obtain ⟨K, r, e⟩ := count_total l A h
  exact ⟨K, decide (r.1 ≤ 2000), by unfold grommetref05_few.f; rw [e]; rfl⟩
end Go.Proofs.Ytbelijoggbblgaa.Ex
