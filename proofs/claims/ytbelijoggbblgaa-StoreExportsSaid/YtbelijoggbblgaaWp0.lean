/- A region in whatever order, where what is known of the world hangs on which operation has come up. -/
import Derived.Test.YtbelijoggbblgaaEx4
import Derived.OrdersHeld
set_option linter.unusedVariables false
namespace Go.Proofs.Ytbelijoggbblgaa.Ex
open Go.RowKit Go.Proofs.YtbelijoggbblgaaW.PrintWords
section
variable {P : Program} {ops : Array Oper} {Q : Exit → Act → World → Prop} {md : Region.Mode}
/-- Whatever order is picked from here on; behind operation i the world meets S i. -/
def wpAnyP (P : Program) (md : Region.Mode) (ops : Array Oper) (Q : Exit → Act → World → Prop) (S : Nat → World → Prop) : Nat → Array Bool → Act → World → Prop
  | 0, listed, a, w => Region.ready md ops listed = [] ∧ Q .normal a w
  | fuel + 1, listed, a, w =>
    (Region.ready md ops listed = [] → Q .normal a w) ∧
    ∀ i ∈ Region.ready md ops listed, wpOp P ops Q i (fun a' w' => S i w' ∧ wpAnyP P md ops Q S fuel (listed.setIfInBounds i true) a' w') a w
variable {S : Nat → World → Prop}
theorem wpAny_of_heldP : ∀ (fuel : Nat) (listed : Array Bool) (a : Act) (w : World), wpAnyP P md ops Q S fuel listed a w → wpAny P md ops Q fuel listed a w
  | 0, _, _, _, h => h
  | fuel + 1, _, _, _, h => ⟨h.1, fun i hi => wpOp_mono (fun a' w' h' => wpAny_of_heldP fuel _ a' w' h'.2) (h.2 i hi)⟩
theorem wpAnyP_first {S1 : World → Prop} {i : Nat} {oi : Oper} {v : Value} (hi : ops[i]? = some oi) (hsel : ∀ (j : Nat) (o : Oper) cs b, ops[j]? = some o → o.op ≠ .select cs b)
    (hQ : ∀ c a w, Q (.panic c) (a.put oi.dst v) w → Q (.panic c) a w)
    (hSi : ∀ w', S1 w' → S i w') :
    ∀ (fuel : Nat) (listed : Array Bool) (a : Act) (w : World),
      (∀ j oj, ops[j]? = some oj → j ≠ i → listed.getD j true = false → (∀ e ∈ oj.after, Region.binds md e = true → e.on ≠ i) → ∀ w', S j w' → S1 w') →
      (∀ j oj, ops[j]? = some oj → j ≠ i → listed.getD j true = false → (∀ e ∈ oj.after, Region.binds md e = true → e.on ≠ i) → oi.apart ops oj = true) →
      i ∈ Region.ready md ops listed → YieldsIf P ops S1 oi v a → S1 w →
      wpAnyP P md ops Q S fuel (listed.setIfInBounds i true) (a.put oi.dst v) w → wpAnyP P md ops Q S (fuel + 1) listed a w := by
  intro fuel
  induction fuel with
  | zero =>
    intro listed a w _ _ hr hy hS H
    refine ⟨fun h => (by rw [h] at hr; cases hr), fun j hj => ?_⟩
    by_cases hji : j = i
    · subst hji; exact hy.wpOp hi hS ⟨hSi _ hS, H⟩
    · have := ready_mono hj hji
      rw [H.1] at this
      cases this
  | succ fuel ih =>
    intro listed a w hSj hfree hr hy hS H
    refine ⟨fun h => (by rw [h] at hr; cases hr), fun j hj => ?_⟩
    by_cases hji : j = i
    · subst hji; exact hy.wpOp hi hS ⟨hSi _ hS, H⟩
    · have h1 := H.2 j (ready_mono hj hji)
      obtain ⟨hjun, oj, hoj, hall⟩ := mem_ready.1 hj
      have hnot : ∀ e ∈ oj.after, Region.binds md e = true → e.on ≠ i := fun e he hb heq => by
        have h1 := hall e he hb
        have h0 := (mem_ready.1 hr).1
        rw [heq] at h1
        rcases Nat.lt_or_ge i listed.size with h' | h'
        · simp [h'] at h0 h1; rw [h0] at h1; cases h1
        · simp [Array.getElem?_eq_none h'] at h1
      have h2 := wpOp_putIf hoj (hfree j oj hoj hji hjun hnot) (fun cs b => hsel i oi cs b hi) (fun cs b => hsel j oj cs b hoj) hQ hy h1
      have hfree' : ∀ k ok, ops[k]? = some ok → k ≠ i → (listed.setIfInBounds j true).getD k true = false →
          (∀ e ∈ ok.after, Region.binds md e = true → e.on ≠ i) → oi.apart ops ok = true := fun k ok hk hki hun hno => by
        refine hfree k ok hk hki ?_ hno
        by_cases hjk : j = k
        · subst hjk; exact hjun
        · rw [getD_set_ne true hjk] at hun; exact hun
      have hSj' : ∀ k ok, ops[k]? = some ok → k ≠ i → (listed.setIfInBounds j true).getD k true = false →
          (∀ e ∈ ok.after, Region.binds md e = true → e.on ≠ i) → ∀ w', S k w' → S1 w' := fun k ok hk hki hun hno => by
        refine hSj k ok hk hki ?_ hno
        by_cases hjk : j = k
        · subst hjk; exact hjun
        · rw [getD_set_ne true hjk] at hun; exact hun
      refine wpOp_mono (fun a' w' h3 => ⟨h3.2.1, ih (listed.setIfInBounds j true) a' w' hSj' hfree' (ready_mono hr (Ne.symm hji)) h3.1 (hSj j oj hoj hji hjun hnot _ h3.2.1) ?_⟩) h2
      rw [Array.setIfInBounds_comm _ _ hji]
      exact h3.2.2
/-- Which operations do not wait for i: after them S1 must hold. -/
def early (md : Region.Mode) (ops : Array Oper) (i : Nat) : List Nat := (List.range ops.size).filter (fun j => j != i && (match ops[j]? with | some o => o.after.all (fun e => !(Region.binds md e && e.on == i)) | none => false))
theorem wpAnyP_take (S1 : World → Prop) (i : Nat) {oi : Oper} {v : Value} {fuel : Nat} {listed : Array Bool} {a : Act} {w : World} (hi : ops[i]? = some oi)
    (hs : Region.noSelect ops = true) (hf : Region.free md ops listed i = true) (hr : (Region.ready md ops listed).contains i = true)
    (hQ : ∀ c a w, Q (.panic c) (a.put oi.dst v) w → Q (.panic c) a w) (p : Nat → Bool) (he : (early md ops i).all (fun j => listed.getD j true || p j) = true) (hSj : ∀ j, p j = true → ∀ w', S j w' → S1 w') (hSi : ∀ w', S1 w' → S i w') (hy : YieldsIf P ops S1 oi v a) (hS : S1 w)
    (h : wpAnyP P md ops Q S fuel (listed.setIfInBounds i true) (a.put oi.dst v) w) : wpAnyP P md ops Q S (fuel + 1) listed a w :=
  wpAnyP_first hi (Region.noSelect_spec hs) hQ hSi fuel listed a w (fun j oj hj hji hun hno w' => hSj j (by
    have hm : j ∈ early md ops i := by
      refine List.mem_filter.2 ⟨List.mem_range.2 (Array.getElem?_eq_some_iff.1 hj).1, ?_⟩
      simp only [hj, Bool.and_eq_true, bne_iff_ne, ne_eq, hji, not_false_eq_true, true_and, Array.all_eq_true, Bool.not_eq_true']
      intro k hk
      cases hb : Region.binds md oj.after[k] with
      | false => rfl
      | true =>
        have := hno _ (Array.getElem_mem hk) hb
        simp [this]
    have h2 := List.all_eq_true.1 he j hm
    rw [hun, Bool.false_or] at h2
    exact h2) w') (Region.free_spec hi hf) (by simpa using hr) hy hS h
theorem wpAnyP_one {i : Nat} {fuel : Nat} {listed : Array Bool} {a : Act} {w : World} (hr : Region.ready md ops listed = [i])
    (h : wpOp P ops Q i (fun a' w' => S i w' ∧ wpAnyP P md ops Q S fuel (listed.setIfInBounds i true) a' w') a w) : wpAnyP P md ops Q S (fuel + 1) listed a w :=
  ⟨fun h0 => (by rw [hr] at h0; cases h0), fun j hj => by rw [hr] at hj; cases List.mem_singleton.1 hj; exact h⟩
theorem wpAnyP_two {i k : Nat} {fuel : Nat} {listed : Array Bool} {a : Act} {w : World} (hr : Region.ready md ops listed = [i, k])
    (h : wpOp P ops Q i (fun a' w' => S i w' ∧ wpAnyP P md ops Q S fuel (listed.setIfInBounds i true) a' w') a w)
    (h2 : wpOp P ops Q k (fun a' w' => S k w' ∧ wpAnyP P md ops Q S fuel (listed.setIfInBounds k true) a' w') a w) : wpAnyP P md ops Q S (fuel + 1) listed a w :=
  ⟨fun h0 => (by rw [hr] at h0; cases h0), fun j hj => by
    rw [hr] at hj
    rcases List.mem_cons.1 hj with rfl | hj
    · exact h
    · cases List.mem_singleton.1 hj; exact h2⟩
theorem wpAnyP_done {listed : Array Bool} {a : Act} {w : World} (hr : Region.ready md ops listed = []) (h : Q .normal a w) : ∀ fuel, wpAnyP P md ops Q S fuel listed a w
  | 0 => ⟨hr, h⟩
  | _ + 1 => ⟨fun _ => h, by rw [hr]; simp⟩
theorem wp_region_heldP (S : Nat → World → Prop) {id : Nat} {a : Act} {w : World} (hm : P.follows .mixedOrders = true)
    (h : wpAnyP P .any ops Q S ops.size (Array.replicate ops.size false) a w.drew) : (Code.region id ops true).wp P Q a w :=
  wp_region_any hm (wpAny_of_heldP _ _ _ _ h)
theorem at_of_drop {i : Nat} {o : Oper} {rest : List Oper} (h : ops.toList.drop i = o :: rest) : ops[i]? = some o := by
  have h2 := congrArg List.head? h
  rw [List.head?_drop, Array.getElem?_toList] at h2
  exact h2
/-- An operation is run. -/
theorem wpOp_run {i : Nat} {o : Oper} {rest : List Oper} {a : Act} {w : World} {K : Act → World → Prop} (ho : ops.toList.drop i = o :: rest)
    (h : ∀ K' : Act → World → Prop, Aside0 (∀ a w, K a w → K' a w) → if Region.wanted o (yielded ops a.tmps) = true then Oper.wp P o a w K' Q else K' (a.put o.dst undef) w) : wpOp P ops Q i K a w :=
  wpOp_step (at_of_drop ho) (fun K' hK => h K' ⟨hK⟩)
/-- Taken first; p: what does not wait for i, and has not come up; S1 holds behind these. -/
theorem wpAnyP_take' (S1 : World → Prop) (p : Nat → Bool) (i : Nat) {oi : Oper} {rest : List Oper} (v : Value) {fuel : Nat} {listed : Array Bool} {a : Act} {w : World} (hi : ops.toList.drop i = oi :: rest)
    (hs : Region.noSelect ops = true) (hf : Region.free md ops listed i = true) (hr : (Region.ready md ops listed).contains i = true)
    (hQ : ∀ c a w, Q (.panic c) (a.put oi.dst v) w → Q (.panic c) a w) (he : (early md ops i).all (fun j => listed.getD j true || p j) = true) (hSj : ∀ j, p j = true → ∀ w', S j w' → S1 w') (hSi : ∀ w', S1 w' → S i w')
    (hy : Region.wanted oi (yielded ops a.tmps) = true) (hv : ∀ w, S1 w → (execOp a.eval oi).run P w = .ok (.value v) w) (hS : S1 w)
    (h : wpAnyP P md ops Q S fuel (listed.setIfInBounds i true) (a.put oi.dst v) w) : wpAnyP P md ops Q S (fuel + 1) listed a w :=
  wpAnyP_take S1 i (at_of_drop hi) hs hf hr hQ p he hSj hSi (.inl ⟨hy, hv⟩) hS h
theorem allT (l : List Nat) (f : Nat → Bool) : l.all (fun j => f j || true) = true := by simp
/-- Taken first in a region that leaves the world as it is. -/
theorem takeW {w0 : World} (i : Nat) {oi : Oper} {rest : List Oper} (v : Value) {fuel : Nat} {listed : Array Bool} {a : Act} (hi : ops.toList.drop i = oi :: rest)
    (hs : Region.noSelect ops = true) (hf : Region.free md ops listed i = true) (hr : (Region.ready md ops listed).contains i = true)
    (hQ : ∀ c a w, Q (.panic c) (a.put oi.dst v) w → Q (.panic c) a w) (hy : Region.wanted oi (yielded ops a.tmps) = true) (hv : (execOp a.eval oi).run P w0 = .ok (.value v) w0)
    (h : wpAnyP P md ops Q (fun _ w' => w' = w0) fuel (listed.setIfInBounds i true) (a.put oi.dst v) w0) : wpAnyP P md ops Q (fun _ w' => w' = w0) (fuel + 1) listed a w0 :=
  wpAnyP_take (fun w' => w' = w0) i (at_of_drop hi) hs hf hr hQ (fun _ => true) (allT _ _) (fun _ _ _ h => h) (fun _ h => h) (.inl ⟨hy, fun w hw => by rw [hw]; exact hv⟩) rfl h
theorem skipW {w0 : World} (i : Nat) {oi : Oper} {rest : List Oper} {fuel : Nat} {listed : Array Bool} {a : Act} (hi : ops.toList.drop i = oi :: rest)
    (hs : Region.noSelect ops = true) (hf : Region.free md ops listed i = true) (hr : (Region.ready md ops listed).contains i = true)
    (hQ : ∀ c a w, Q (.panic c) (a.put oi.dst undef) w → Q (.panic c) a w) (hy : Region.wanted oi (yielded ops a.tmps) = false)
    (h : wpAnyP P md ops Q (fun _ w' => w' = w0) fuel (listed.setIfInBounds i true) (a.put oi.dst undef) w0) : wpAnyP P md ops Q (fun _ w' => w' = w0) (fuel + 1) listed a w0 :=
  wpAnyP_take (fun w' => w' = w0) i (at_of_drop hi) hs hf hr hQ (fun _ => true) (allT _ _) (fun _ _ _ h => h) (fun _ h => h) (.inr ⟨hy, rfl⟩) rfl h
/-- Taken first: it yields in whatever world. -/
theorem takeA (i : Nat) {oi : Oper} {rest : List Oper} (v : Value) {fuel : Nat} {listed : Array Bool} {a : Act} {w : World} (hi : ops.toList.drop i = oi :: rest)
    (hs : Region.noSelect ops = true) (hf : Region.free md ops listed i = true) (hr : (Region.ready md ops listed).contains i = true)
    (hQ : ∀ c a w, Q (.panic c) (a.put oi.dst v) w → Q (.panic c) a w) (hy : Region.wanted oi (yielded ops a.tmps) = true) (hv : ∀ w, (execOp a.eval oi).run P w = .ok (.value v) w)
    (h : wpAnyP P md ops Q (fun _ _ => True) fuel (listed.setIfInBounds i true) (a.put oi.dst v) w) : wpAnyP P md ops Q (fun _ _ => True) (fuel + 1) listed a w :=
  wpAnyP_take (fun _ => True) i (at_of_drop hi) hs hf hr hQ (fun _ => true) (allT _ _) (fun _ _ _ _ => trivial) (fun _ _ => trivial) (.inl ⟨hy, fun w _ => hv w⟩) trivial h
end
end Go.Proofs.Ytbelijoggbblgaa.Ex
