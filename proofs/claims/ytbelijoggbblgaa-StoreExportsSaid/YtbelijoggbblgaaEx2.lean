/- What the program's code makes of instructions: the same. -/
import Derived.Test.YtbelijoggbblgaaRStoreExportsx3
import Derived.Test.YtbelijoggbblgaaEx1
namespace Go.Proofs.Ytbelijoggbblgaa.Ex
open Go.RowKit Go.Proofs.YtbelijoggbblgaaW.PrintWords Go.Proofs.YtbelijoggbblgaaW.PrintLast Go.Proofs.Ytbelijoggbblgaa.RStoreExports Go.Proofs.Ytbelijoggbblgaa.Man
set_option linter.unusedVariables false
set_option linter.unusedSimpArgs false
/-- Instructions, nested at most n deep, whose lists a machine's memory holds. -/
def Bd : Nat → List S104 → Prop
  | 0, _ => False
  | n + 1, l => l.length ≤ 1172812402961 ∧ ∀ x ∈ l, x.f5.length * 8 ≤ 140737488351232 ∧ Bd n x.f6 ∧ Bd n x.f7
theorem bd_mono : ∀ (n m : Nat) (l : List S104), n ≤ m → Bd n l → Bd m l
  | 0, _, _, _, h => h.elim
  | n + 1, 0, _, hm, _ => by omega
  | n + 1, m + 1, l, hm, h => ⟨h.1, fun x hx => ⟨(h.2 x hx).1, bd_mono n m _ (by omega) (h.2 x hx).2.1, bd_mono n m _ (by omega) (h.2 x hx).2.2⟩⟩
theorem xf_mono (l : List S104) : ∀ k, LeO (store_code.f k l) (store_code.f (k + 1) l) := fun k => store_code.mono l k
theorem xl0_mono (a l : List S104) (b i : Int) : ∀ k, LeO (store_code.l0 k a l b i) (store_code.l0 (k + 1) a l b i) := fun k => (store_code.mono_l k).2 _ _ _ _
theorem code_l0 (l : List S104) (hl : l.length ≤ 1172812402961) (h5 : ∀ x ∈ l, x.f5.length * 8 ≤ 140737488351232) (hf : ∀ x ∈ l, ∃ K, store_code.f K x.f6 = some x.f6 ∧ store_code.f K x.f7 = some x.f7) : ∀ (d i : Nat), i + d = l.length → ∃ K, store_code.l0 K (l.take i) l (l.length : Int) (i : Int) = some l
  | 0, i, hi => ⟨1, by rw [store_code.l0, if_neg (by omega), List.take_of_length_le (by omega)]⟩
  | d + 1, i, hi => by
    have hk : i < l.length := by omega
    have e : rd_T104 l (i : Int) = l[i] := by unfold rd_T104; rw [Int.toNat_natCast, List.getD_eq_getElem?_getD, List.getElem?_eq_getElem hk]; rfl
    have ew : wrap64 ((i : Int) + 1) = ((i + 1 : Nat) : Int) := by unfold wrap64; omega
    obtain ⟨K1, h6, h7⟩ := hf l[i] (List.getElem_mem hk)
    obtain ⟨K2, h2⟩ := code_l0 l hl h5 hf d (i + 1) (by omega)
    have hc : slices_Clone_int_int.f l[i].f5 = some l[i].f5 := by unfold slices_Clone_int_int.f; rw [if_pos (h5 _ (List.getElem_mem hk))]
    refine ⟨K1 + K2 + 1, ?_⟩
    rw [store_code.l0, if_pos (by omega), if_pos (by omega), if_pos (by omega), e, hc, Option.bind_some, at_rounds (g := fun k => store_code.f k l[i].f6) (xf_mono _) (by omega) h6, Option.bind_some, at_rounds (g := fun k => store_code.f k l[i].f7) (xf_mono _) (by omega) h7, Option.bind_some, if_pos (by rw [List.length_take]; omega), ew]
    have et : l.take i ++ [(⟨l[i].f0, l[i].f1, l[i].f2, l[i].f3, l[i].f4, l[i].f5, l[i].f6, l[i].f7, l[i].f8⟩ : S104)] = l.take (i + 1) := by
      rw [List.take_add_one, List.getElem?_eq_getElem hk, Option.toList_some]
      cases l[i]
      rfl
    rw [et]
    exact at_rounds (g := fun k => store_code.l0 k (l.take (i + 1)) l (l.length : Int) ((i + 1 : Nat) : Int)) (xl0_mono _ _ _ _) (by omega) h2
theorem code_f : ∀ (n : Nat) (l : List S104), Bd n l → ∃ K, store_code.f K l = some l
  | 0, _, h => h.elim
  | n + 1, l, h => by
    have hf : ∀ x ∈ l, ∃ K, store_code.f K x.f6 = some x.f6 ∧ store_code.f K x.f7 = some x.f7 := by
      intro x hx
      obtain ⟨_, b6, b7⟩ := h.2 x hx
      obtain ⟨K1, e1⟩ := code_f n x.f6 b6
      obtain ⟨K2, e2⟩ := code_f n x.f7 b7
      exact ⟨K1 + K2, at_rounds (g := fun k => store_code.f k x.f6) (xf_mono _) (by omega) e1, at_rounds (g := fun k => store_code.f k x.f7) (xf_mono _) (by omega) e2⟩
    obtain ⟨K, e⟩ := code_l0 l h.1 (fun x hx => (h.2 x hx).1) hf l.length 0 (by omega)
    exact ⟨K + 1, by rw [store_code.f]; exact e⟩
/-- The program's code of a list: the same list in new memory. -/
theorem code_copy {n : Nat} {l : List S104} (hb : Bd n l) {A : Option Addr} {c : Nat} {w : World} (h : Kd.C k104 w A l.length l) (hc : l.length ≤ c) :
    Calls Try.prog 55 #[.slice A l.length c] w fun e w' => ∃ v0_ : Value, e = .returned v0_ ∧ Kd.R k104 104 w' w.heap.size (fun _ => True) v0_ l ∧ Below w.heap.size w w' := by
  obtain ⟨K, e⟩ := code_f n l hb
  exact store_code.calls K A c l l w h hc e
end Go.Proofs.Ytbelijoggbblgaa.Ex
