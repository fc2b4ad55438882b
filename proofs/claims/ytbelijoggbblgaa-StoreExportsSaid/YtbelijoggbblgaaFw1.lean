/- The same for a region whose last operations write: nothing is held behind those of ds. -/
import Derived.Test.YtbelijoggbblgaaEx7
import Derived.Test.YtbelijoggbblgaaEx9
namespace Go.Proofs.Ytbelijoggbblgaa.Ex
open Go.RowKit Go.Proofs.YtbelijoggbblgaaW.PrintWords Go.Proofs.YtbelijoggbblgaaW.PrintLast
set_option linter.unusedVariables false
set_option linter.unusedSimpArgs false
section
variable {P : Program} {ops : Array Oper} {Q : Exit → Act → World → Prop} {md : Region.Mode} {S : World → Prop} {ds : List Nat}
theorem pureD {n i k : Nat} {oi : Oper} {v : Value} {fuel : Nat} {l : Array Bool} {a : Act} {w : World} {env : List (Nat × Value)} (l' : Array Bool) (hi : ops[i]? = some oi) (hN : oi.dst = some k) (hc : anyB md ops l l' i = true)
    (hQ : ∀ c a w, Q (.panic c) (a.put (some k) v) w → Q (.panic c) a w) (hF : Fr n a env) (hw : wantedB env ops oi = true) (hk : k < n) (hv : ∀ w', (execOp a.eval oi).run P w' = .ok (.value v) w')
    (h : ∀ a', Fr n a' ((k, v) :: env) → wpAnyLast P md ops Q S ds fuel l' a' w) : wpAnyLast P md ops Q S ds (fuel + 1) l a w :=
  pure_ l' hi hN hc (by rw [hN]; exact hQ) (.inl ⟨wanted_of hF hw, hv⟩) rfl (h _ (hF.put hk v))
theorem takeD {n i k : Nat} {oi : Oper} {v : Value} {fuel : Nat} {l : Array Bool} {a : Act} {w : World} {env : List (Nat × Value)} (l' : Array Bool) (hi : ops[i]? = some oi) (hN : oi.dst = some k) (hc : takeB md ops ds l l' i = true)
    (hQ : ∀ c a w, Q (.panic c) (a.put (some k) v) w → Q (.panic c) a w) (hF : Fr n a env) (hw : wantedB env ops oi = true) (hk : k < n) (hv : ∀ w', S w' → (execOp a.eval oi).run P w' = .ok (.value v) w') (hS : S w)
    (h : ∀ a', Fr n a' ((k, v) :: env) → wpAnyLast P md ops Q S ds fuel l' a' w) : wpAnyLast P md ops Q S ds (fuel + 1) l a w :=
  take_ l' hi hN hc (by rw [hN]; exact hQ) (.inl ⟨wanted_of hF hw, hv⟩) hS rfl (h _ (hF.put hk v))
theorem oneD {n i k : Nat} {oi : Oper} {fuel : Nat} {l : Array Bool} {a : Act} {w : World} {env : List (Nat × Value)} (l' : Array Bool) (hi : ops[i]? = some oi) (hN : oi.dst = some k) (hc : readyB md ops l l' i = true) (hd : i ∉ ds) (hF : Fr n a env) (hw : wantedB env ops oi = true) (hk : k < n)
    (h : ∀ K : Act → World → Prop, Shut (∀ v w', S w' → (∀ a', Fr n a' ((k, v) :: env) → wpAnyLast P md ops Q S ds fuel l' a' w') → K (a.put (some k) v) w') → Oper.wp P oi a w K Q) : wpAnyLast P md ops Q S ds (fuel + 1) l a w :=
  one_ l' hi hN hc hd (fun K hK => by
    rw [if_pos (wanted_of hF hw)]
    exact h K (fun v w' hS hh => hK.out _ _ hS (fun _ => hh _ (hF.put hk v))))
/-- One of ds that yields a value. -/
theorem lastD {n i k : Nat} {oi : Oper} {fuel : Nat} {l : Array Bool} {a : Act} {w : World} {env : List (Nat × Value)} (l' : Array Bool) (hi : ops[i]? = some oi) (hN : oi.dst = some k) (hc : readyB md ops l l' i = true) (hd : i ∈ ds) (hF : Fr n a env) (hk : k < n)
    (h : ∀ K : Act → World → Prop, Shut (∀ v w', (∀ a', Fr n a' ((k, v) :: env) → wpAnyLast P md ops Q S ds fuel l' a' w') → K (a.put (some k) v) w') → if Region.wanted oi (yielded ops a.tmps) = true then Oper.wp P oi a w K Q else K (a.put (some k) undef) w) : wpAnyLast P md ops Q S ds (fuel + 1) l a w :=
  last_ l' hi hN hc hd (fun K hK => h K (fun v w' hh => hK.out _ _ (hh _ (hF.put hk v))))
/-- One of ds that yields none: a store. -/
theorem storeD {n i : Nat} {oi : Oper} {fuel : Nat} {l : Array Bool} {a : Act} {w : World} {env : List (Nat × Value)} (l' : Array Bool) (hi : ops[i]? = some oi) (hN : oi.dst = none) (hc : readyB md ops l l' i = true) (hd : i ∈ ds) (hF : Fr n a env) (hw : wantedB env ops oi = true)
    (h : ∀ K : Act → World → Prop, Shut (∀ w', wpAnyLast P md ops Q S ds fuel l' a w' → K a w') → Oper.wp P oi a w K Q) : wpAnyLast P md ops Q S ds (fuel + 1) l a w :=
  last_ l' hi hN hc hd (fun K hK => by
    rw [if_pos (wanted_of hF hw)]
    exact h K (fun w' hh => hK.out _ _ hh))
/-- A store of a region in text order. -/
theorem listS {n : Nat} {o : Oper} {rest : List Oper} {a : Act} {w w1 : World} {env : List (Nat × Value)} (hN : o.dst = none) (hF : Fr n a env) (hw : wantedB env ops o = true) (hv : (execOp a.eval o).run P w = .ok .skip w1)
    (h : wpList P ops Q rest a w1) : wpList P ops Q (o :: rest) a w := by
  unfold wpList
  rw [if_pos (wanted_of hF hw)]
  refine .inl ?_
  unfold Oper.wp
  rw [hv]
  show wpList P ops Q rest (a.put o.dst undef) w1
  rw [hN]
  exact h
/-- A call of a region in text order. -/
theorem listC {n k : Nat} {o : Oper} {rest : List Oper} {a : Act} {w : World} {env : List (Nat × Value)} (hN : o.dst = some k) (hF : Fr n a env) (hw : wantedB env ops o = true) (hk : k < n)
    (h : ∀ K : Act → World → Prop, Shut (∀ v w', (∀ a', Fr n a' ((k, v) :: env) → wpList P ops Q rest a' w') → K (a.put (some k) v) w') → Oper.wp P o a w K Q) : wpList P ops Q (o :: rest) a w := by
  unfold wpList
  rw [if_pos (wanted_of hF hw)]
  refine .inl (h _ (fun v w' hh => ?_))
  exact hh _ (hF.put hk v)
end
end Go.Proofs.Ytbelijoggbblgaa.Ex
