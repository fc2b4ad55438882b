/- A function's frame known by some of its slots alone: the walk of long functions whose frames are wide. -/
import Derived.Test.YtbelijoggbblgaaEx6
namespace Go.Proofs.Ytbelijoggbblgaa.Ex
open Go.RowKit Go.Proofs.YtbelijoggbblgaaW.PrintWords Go.Proofs.YtbelijoggbblgaaW.PrintLast
set_option linter.unusedVariables false
set_option linter.unusedSimpArgs false
/-- A frame of n slots, nothing deferred; in the slots of l lies what l says. -/
structure Fr (n : Nat) (a : Act) (l : List (Nat × Value)) : Prop where
  size : a.tmps.size = n
  none : a.defers = []
  has : ∀ k v, l.lookup k = some v → a.tmps[k]? = some v
theorem Fr.get {n : Nat} {a : Act} {l : List (Nat × Value)} (h : Fr n a l) {k : Nat} {v : Value} (hl : l.lookup k = some v) : a.eval (.tmp k) = v := by
  have := h.has k v hl
  show a.tmps.getD k undef = v
  rw [Array.getD_eq_getD_getElem?, this]
  rfl
theorem Fr.at {n : Nat} {a : Act} {l : List (Nat × Value)} (h : Fr n a l) {k : Nat} {v : Value} (hl : l.lookup k = some v) : a.tmps[k]?.getD undef = v := by
  rw [h.has k v hl]
  rfl
theorem Fr.put {n : Nat} {a : Act} {l : List (Nat × Value)} (h : Fr n a l) {k : Nat} (hk : k < n) (v : Value) : Fr n (a.put (some k) v) ((k, v) :: l) := by
  refine ⟨?_, h.none, fun j u hj => ?_⟩
  · show (a.tmps.setIfInBounds k v).size = n
    rw [Array.size_setIfInBounds]
    exact h.size
  · show (a.tmps.setIfInBounds k v)[j]? = some u
    rw [Array.getElem?_setIfInBounds]
    by_cases hkj : k = j
    · subst hkj
      rw [if_pos rfl, if_pos (by rw [h.size]; exact hk)]
      rw [List.lookup_cons_self] at hj
      exact hj
    · rw [if_neg hkj]
      rw [List.lookup_cons, show (j == k) = false from beq_eq_false_iff_ne.2 (fun e => hkj e.symm)] at hj
      exact h.has j u hj
/-- A part of what is known. -/
theorem Fr.sub {n : Nat} {a : Act} {l : List (Nat × Value)} (h : Fr n a l) (l' : List (Nat × Value)) (hl : ∀ p ∈ l', l.lookup p.1 = some p.2) : Fr n a l' := by
  refine ⟨h.size, h.none, ?_⟩
  intro k v hk
  have : (k, v) ∈ l' := by
    clear hl h
    induction l' with
    | nil => cases hk
    | cons p r ih =>
      obtain ⟨j, u⟩ := p
      by_cases e : k = j
      · subst e
        rw [List.lookup_cons_self] at hk
        cases hk
        exact List.mem_cons_self
      · rw [List.lookup_cons, show (k == j) = false from beq_eq_false_iff_ne.2 e] at hk
        exact List.mem_cons_of_mem _ (ih hk)
  exact h.has k v (hl _ this)
def wantedB (l : List (Nat × Value)) (ops : Array Oper) (o : Oper) : Bool := match o.guard with
  | none => true
  | some (j, b) => match (ops[j]?).bind (·.dst) with
    | some m => match l.lookup m with
      | some (.bool c) => c == b
      | _ => false
    | none => false
theorem wanted_of {n : Nat} {a : Act} {l : List (Nat × Value)} {ops : Array Oper} {o : Oper} (h : Fr n a l) (hw : wantedB l ops o = true) : Region.wanted o (yielded ops a.tmps) = true := by
  unfold wantedB at hw
  unfold Region.wanted
  split at hw
  · rename_i hg; rw [hg]
  · rename_i j b hg
    rw [hg]
    split at hw
    · rename_i m hm
      split at hw
      · rename_i c hc
        show (yielded ops a.tmps j == some b) = true
        unfold yielded
        rw [hm, Option.bind_some, h.has m _ hc]
        simpa using hw
      · cases hw
    · cases hw
/-- What has come up, as the bits of a number. -/
def bt (n m : Nat) : Array Bool := ((List.range n).map fun i => m.testBit i).toArray
def envFrom : Nat → List Value → List (Nat × Value)
  | _, [] => []
  | i, v :: r => (i, v) :: envFrom (i + 1) r
theorem envFrom_has : ∀ (l : List Value) (i k : Nat) (v : Value), (envFrom i l).lookup k = some v → i ≤ k ∧ l[k - i]? = some v
  | [], _, _, _, h => by cases h
  | u :: r, i, k, v, h => by
    unfold envFrom at h
    rw [List.lookup_cons] at h
    split at h
    · rename_i e
      obtain rfl : k = i := beq_iff_eq.1 e
      cases h
      exact ⟨Nat.le_refl _, by simp⟩
    · obtain ⟨h1, h2⟩ := envFrom_has r (i + 1) k v h
      refine ⟨by omega, ?_⟩
      rw [show k - i = (k - (i + 1)) + 1 by omega, List.getElem?_cons_succ]
      exact h2
theorem enterF {P : Program} {f : FuncId} {fn : Func} {c : Code} {w : World} {R : Ending → World → Prop} {n : Nat} (l : List Value) (hf : P.funcs[f]? = some fn) (hb : fn.body = some c) (hn : fn.ntmps = n) (h2 : l.length ≤ n)
    (h : ∀ a, Fr n a (envFrom 0 l) → c.wp P (bodyPost P fn R) a w) : Calls P f l.toArray w R := by
  refine calls_of_wp hf hb (h _ ⟨?_, rfl, ?_⟩)
  · subst hn
    simp
    omega
  · intro k v hk
    obtain ⟨_, h3⟩ := envFrom_has l 0 k v hk
    rw [Nat.sub_zero] at h3
    show (l.toArray ++ Array.replicate (fn.ntmps - l.toArray.size) undef)[k]? = some v
    rw [Array.getElem?_append_left (by simpa using (List.getElem?_eq_some_iff.1 h3).1), List.getElem?_toArray]
    exact h3
theorem cutW {P : Program} {c : Code} {A N : Act → World → Prop} {Q : Exit → Act → World → Prop} {a : Act} {w : World} (h : c.wp P (Exit.then A Q) a w) (h2 : ∀ a w, A a w → N a w) : c.wp P (Exit.then N Q) a w :=
  Code.wp_mono (fun e a w hq => by
    cases e with
    | normal => exact h2 _ _ hq
    | exit id => exact hq
    | goto l => exact hq
    | ret => exact hq
    | panic ch => exact hq
    | outgrown => exact hq) h
theorem enterF1 {P : Program} {f : FuncId} {fn : Func} {c : Code} {x : Value} {w : World} {R : Ending → World → Prop} {n : Nat} (hf : P.funcs[f]? = some fn) (hb : fn.body = some c) (hn : fn.ntmps = n) (h1 : 1 ≤ n)
    (h : ∀ a, Fr n a [(0, x)] → c.wp P (bodyPost P fn R) a w) : Calls P f #[x] w R := enterF [x] hf hb hn h1 h
theorem enterF2 {P : Program} {f : FuncId} {fn : Func} {c : Code} {x y : Value} {w : World} {R : Ending → World → Prop} {n : Nat} (hf : P.funcs[f]? = some fn) (hb : fn.body = some c) (hn : fn.ntmps = n) (h2 : 2 ≤ n)
    (h : ∀ a, Fr n a [(1, y), (0, x)] → c.wp P (bodyPost P fn R) a w) : Calls P f #[x, y] w R :=
  enterF [x, y] hf hb hn h2 (fun a ha => h a (ha.sub _ (List.forall_mem_cons.2 ⟨rfl, List.forall_mem_cons.2 ⟨rfl, by intro p_ hp_; cases hp_⟩⟩)))
section
variable {P : Program} {ops : Array Oper} {Q : Exit → Act → World → Prop} {md : Region.Mode} {S : World → Prop}
/-- An operation that yields whatever the world is. -/
theorem pureF {n i k : Nat} {oi : Oper} {v : Value} {fuel : Nat} {l : Array Bool} {a : Act} {w : World} {env : List (Nat × Value)} (l' : Array Bool) (hi : ops[i]? = some oi) (hN : oi.dst = some k) (hc : anyB md ops l l' i = true)
    (hQ : ∀ c a w, Q (.panic c) (a.put (some k) v) w → Q (.panic c) a w) (hF : Fr n a env) (hw : wantedB env ops oi = true) (hk : k < n) (hv : ∀ w', (execOp a.eval oi).run P w' = .ok (.value v) w')
    (h : ∀ a', Fr n a' ((k, v) :: env) → wpAnyLast P md ops Q S [] fuel l' a' w) : wpAnyLast P md ops Q S [] (fuel + 1) l a w :=
  pure_ l' hi hN hc (by rw [hN]; exact hQ) (.inl ⟨wanted_of hF hw, hv⟩) rfl (h _ (hF.put hk v))
/-- One that yields in every world that meets S. -/
theorem takeF {n i k : Nat} {oi : Oper} {v : Value} {fuel : Nat} {l : Array Bool} {a : Act} {w : World} {env : List (Nat × Value)} (l' : Array Bool) (hi : ops[i]? = some oi) (hN : oi.dst = some k) (hc : takeB md ops [] l l' i = true)
    (hQ : ∀ c a w, Q (.panic c) (a.put (some k) v) w → Q (.panic c) a w) (hF : Fr n a env) (hw : wantedB env ops oi = true) (hk : k < n) (hv : ∀ w', S w' → (execOp a.eval oi).run P w' = .ok (.value v) w') (hS : S w)
    (h : ∀ a', Fr n a' ((k, v) :: env) → wpAnyLast P md ops Q S [] fuel l' a' w) : wpAnyLast P md ops Q S [] (fuel + 1) l a w :=
  take_ l' hi hN hc (by rw [hN]; exact hQ) (.inl ⟨wanted_of hF hw, hv⟩) hS rfl (h _ (hF.put hk v))
/-- One operation alone may come up: a call. -/
theorem oneF {n i k : Nat} {oi : Oper} {fuel : Nat} {l : Array Bool} {a : Act} {w : World} {env : List (Nat × Value)} (l' : Array Bool) (hi : ops[i]? = some oi) (hN : oi.dst = some k) (hc : readyB md ops l l' i = true) (hF : Fr n a env) (hw : wantedB env ops oi = true) (hk : k < n)
    (h : ∀ K : Act → World → Prop, Shut (∀ v w', S w' → (∀ a', Fr n a' ((k, v) :: env) → wpAnyLast P md ops Q S [] fuel l' a' w') → K (a.put (some k) v) w') → Oper.wp P oi a w K Q) : wpAnyLast P md ops Q S [] (fuel + 1) l a w :=
  one_ l' hi hN hc (by simp) (fun K hK => by
    rw [if_pos (wanted_of hF hw)]
    exact h K (fun v w' hS hh => hK.out _ _ hS (fun _ => hh _ (hF.put hk v))))
/-- One operation of a region in text order. -/
theorem listF {n k : Nat} {o : Oper} {rest : List Oper} {v : Value} {a : Act} {w : World} {env : List (Nat × Value)} (hN : o.dst = some k) (hF : Fr n a env) (hw : wantedB env ops o = true) (hk : k < n) (hv : (execOp a.eval o).run P w = .ok (.value v) w)
    (h : ∀ a', Fr n a' ((k, v) :: env) → wpList P ops Q rest a' w) : wpList P ops Q (o :: rest) a w := by
  unfold wpList
  rw [if_pos (wanted_of hF hw)]
  refine .inl ?_
  unfold Oper.wp
  rw [hv]
  show wpList P ops Q rest (a.put o.dst v) w
  rw [hN]
  exact h _ (hF.put hk v)
theorem listM {n k : Nat} {o : Oper} {rest : List Oper} {v : Value} {a : Act} {w w1 : World} {env : List (Nat × Value)} (hN : o.dst = some k) (hF : Fr n a env) (hw : wantedB env ops o = true) (hk : k < n) (hv : (execOp a.eval o).run P w = .ok (.value v) w1)
    (h : ∀ a', Fr n a' ((k, v) :: env) → wpList P ops Q rest a' w1) : wpList P ops Q (o :: rest) a w := by
  unfold wpList
  rw [if_pos (wanted_of hF hw)]
  refine .inl ?_
  unfold Oper.wp
  rw [hv]
  show wpList P ops Q rest (a.put o.dst v) w1
  rw [hN]
  exact h _ (hF.put hk v)
end
/-- A block of a function's code, by its number. -/
def blockIn : Code → Nat → Option Code
  | .seq a b, k => match blockIn a k with
    | some o => some o
    | none => blockIn b k
  | .cond _ a b, k => match blockIn a k with
    | some o => some o
    | none => blockIn b k
  | .block id c, k => if id == k then some (.block id c) else blockIn c k
  | .loop c, k => blockIn c k
  | _, _ => none
def blockOf (f : Func) (k : Nat) : Code := (f.body.bind fun c => blockIn c k).getD .skip
end Go.Proofs.Ytbelijoggbblgaa.Ex
