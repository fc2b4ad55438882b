import Derived.Test.YtbelijoggbblgaaSp9
import Derived.Test.YtbelijoggbblgaaSp7
import Derived.Test.YtbelijoggbblgaaSp6
import Derived.Test.YtbelijoggbblgaaSp5
namespace Go.Proofs.Ytbelijoggbblgaa.Sp
open Go.RowKit Go.Proofs.YtbelijoggbblgaaW.PrintWords Go.Proofs.YtbelijoggbblgaaW.PrintLast Go.Proofs.YtbelijoggbblgaaW.PrintMore Go.Proofs.Ytbelijoggbblgaa.PStorePlays Go.Proofs.Ytbelijoggbblgaa.St
set_option linter.unusedVariables false
set_option linter.unusedSimpArgs false
/-- A memory of zeros, of blocks with the tag 0. -/
def Me (w : World) (base : Nat) (tag : Nat → Nat) (ty : TypeId) (v : List Value) (n : Nat) (most : Int) : Prop :=
  ∃ g A c, v = [.pointer (some ⟨g, 0, none⟩)] ∧ Mm w base ty g A n c (List.replicate n 0) most ∧ tag g = 0 ∧ ∀ k, blk A = some k → tag k = 0
/-- A row of numbers of the tag t. -/
def Lf (w : World) (base : Nat) (tag : Nat → Nat) (t : Nat) (v : Value) (l : List Int) : Prop := I64.R 3 w base (fun k => tag k = t) v l
/-- The store, and what it holds: functions, tables, memories, globals. -/
structure Sh (w : World) (base s : Nat) (tag : Nat → Nat) (F : List S32) (L : List (List Int × Int)) (N : List (Nat × Int)) (G : List S41) (vF vT vM vG : Value) (T M : List (List Value)) : Prop where
  st : St w base s (fun k => tag k = 1) vF vT vM vG F T M G
  tl : T.length = L.length
  ml : M.length = N.length
  ta : ∀ (i : Nat) (p : List Int × Int), L[i]? = some p → ∃ v, T[i]? = some [v, .int .i64 p.2] ∧ Lf w base tag (3 + 2 * i) v p.1
  me : ∀ (i : Nat) (p : Nat × Int), N[i]? = some p → ∃ v, M[i]? = some v ∧ Me w base tag 144 v p.1 p.2
  lb : ∀ (i : Nat) (p : List Int × Int), L[i]? = some p → p.1.length ≤ 64
  nb : ∀ (i : Nat) (p : Nat × Int), N[i]? = some p → p.1 ≤ 4096
/-- The model's record and rows. -/
structure Md (w : World) (base m : Nat) (ok : Nat → Prop) (uF uT uX uM uG : Value) (F T : List (List Value)) (X : List Int) (M : List (List Value)) (G : List S41) : Prop where
  lo : m < base
  row : Row w m 83 #[uF, uT, uX, uM, uG, .slice none 0 0]
  f : (raw 5).R 32 w base ok uF F
  t : (raw 1).R 23 w base ok uT T
  x : I64.R 3 w base ok uX X
  m : (raw 1).R 131 w base ok uM M
  g : k41.R 41 w base ok uG G
/-- A function as it was handed in. -/
def Fu (W0 : World) (v : List Value) (x : S32) : Prop :=
  ∃ A c B d, v = [.slice A x.f0.f0.length c, .slice B x.f0.f1.length d, .int .i64 x.f1, .int .i64 x.f2, .int .u64 x.f3] ∧ I64.C W0 A x.f0.f0.length x.f0.f0 ∧ x.f0.f0.length ≤ c ∧ I64.C W0 B x.f0.f1.length x.f0.f1 ∧ x.f0.f1.length ≤ d ∧ x.f0.f0.length ≤ 300 ∧ x.f0.f1.length ≤ 300
/-- The model, and what it holds. -/
structure Mh (w W0 : World) (base m : Nat) (tag : Nat → Nat) (F : List S32) (L : List (List Int × Int)) (N : List (Nat × Int)) (G : List S41) (uF uT uX uM uG : Value) (F' T M : List (List Value)) : Prop where
  md : Md w base m (fun k => tag k = 2) uF uT uX uM uG F' T (L.map (·.2)) M G
  fl : F'.length = F.length
  tl : T.length = L.length
  ml : M.length = N.length
  fu : ∀ (i : Nat) (x : S32), F[i]? = some x → ∃ v, F'[i]? = some v ∧ Fu W0 v x
  ta : ∀ (i : Nat) (p : List Int × Int), L[i]? = some p → ∃ v, T[i]? = some [v] ∧ Lf w base tag (4 + 2 * i) v p.1
  me : ∀ (i : Nat) (p : Nat × Int), N[i]? = some p → ∃ v, M[i]? = some v ∧ Me w base tag 130 v p.1 p.2
section
variable {w w1 W0 : World} {base s m : Nat} {tag tag1 : Nat → Nat} {F : List S32} {L : List (List Int × Int)} {N : List (Nat × Int)} {G : List S41} {vF vT vM vG uF uT uX uM uG : Value} {F' T M : List (List Value)}
theorem Md.step {ok : Nat → Prop} {X : List Int} (h : Md w base m ok uF uT uX uM uG F' T X M G) (hm : ∀ k, ((ok k ∧ base ≤ k) ∨ k = m) → k < w.heap.size → w1.heap[k]? = w.heap[k]?) : Md w1 base m ok uF uT uX uM uG F' T X M G :=
  ⟨h.lo, (hm m (.inr rfl) h.row.lt).trans h.row, R_stepB h.f (fun k ho hk => hm k (.inl ⟨ho, hk⟩)), R_stepB h.t (fun k ho hk => hm k (.inl ⟨ho, hk⟩)), R_stepB h.x (fun k ho hk => hm k (.inl ⟨ho, hk⟩)), R_stepB h.m (fun k ho hk => hm k (.inl ⟨ho, hk⟩)), R_stepB h.g (fun k ho hk => hm k (.inl ⟨ho, hk⟩))⟩
theorem Md.monoB {ok ok' : Nat → Prop} {X : List Int} (h : Md w base m ok uF uT uX uM uG F' T X M G) (hk : ∀ k, ok k → base ≤ k → k < w.heap.size → ok' k) : Md w base m ok' uF uT uX uM uG F' T X M G := ⟨h.lo, h.row, R_monoB h.f hk, R_monoB h.t hk, R_monoB h.x hk, R_monoB h.m hk, R_monoB h.g hk⟩
theorem Lf.step {t : Nat} {v : Value} {l : List Int} (h : Lf w base tag t v l) (hm : ∀ k, tag k = t → base ≤ k → k < w.heap.size → w1.heap[k]? = w.heap[k]? ∧ tag1 k = tag k) : Lf w1 base tag1 t v l := by
  have h1 := R_monoB h (ok' := fun k => tag k = t ∧ k < w.heap.size) (fun k a b c => ⟨a, c⟩)
  have h2 := R_stepB (w1 := w1) h1 (fun k a b c => (hm k a.1 b c).1)
  unfold Lf
  exact R_monoB h2 (fun k a b c => by rw [(hm k a.1 b a.2).2]; exact a.1)
theorem Me.step {ty : TypeId} {v : List Value} {n : Nat} {most : Int} (h : Me w base tag ty v n most) (hsz : w.heap.size ≤ w1.heap.size) (hm : ∀ k, tag k = 0 → base ≤ k → k < w.heap.size → w1.heap[k]? = w.heap[k]? ∧ tag1 k = tag k) : Me w1 base tag1 ty v n most := by
  obtain ⟨g, A, c, e, hM, t0, t1⟩ := h
  have hb := hM.bs
  have hg := hm g t0 hM.lo hM.row.lt
  refine ⟨g, A, c, e, ⟨hM.len, hM.lo, hg.1.trans hM.row, ?_, hM.rng⟩, by rw [hg.2]; exact t0, fun k hk => ?_⟩
  · refine own_move hM.own (fun k hk => ?_)
    have hr := hM.own.lt k hk
    exact (hm k (t1 k (by rw [ownBlock_slice] at hk; exact hk)) hr.1 hr.2).1
  · have hr := hM.own.lt k (by rw [ownBlock_slice]; exact hk)
    rw [(hm k (t1 k hk) hr.1 hr.2).2]; exact t1 k hk
/-- What the other side does. -/
theorem Sh.frame (h : Sh w base s tag F L N G vF vT vM vG T M) (hsz : w.heap.size ≤ w1.heap.size) (hs : w1.heap[s]? = w.heap[s]?) (hm : ∀ k, base ≤ k → k < w.heap.size → (tag k = 0 ∨ tag k = 1 ∨ ∃ i, tag k = 3 + 2 * i) → w1.heap[k]? = w.heap[k]?) (ht : ∀ k, k < w.heap.size → tag1 k = tag k) : Sh w1 base s tag1 F L N G vF vT vM vG T M := by
  refine ⟨?_, h.tl, h.ml, fun i p hp => ?_, fun i p hp => ?_, h.lb, h.nb⟩
  · have h1 := h.st.monoB (ok' := fun k => tag k = 1 ∧ k < w.heap.size) (fun k a b c => ⟨a, c⟩)
    have h2 := h1.step (w1 := w1) (fun k hk hlt => by
      rcases hk with ⟨a, b⟩ | rfl
      · exact hm k b hlt (.inr (.inl a.1))
      · exact hs)
    exact h2.monoB (fun k a b c => by rw [ht k a.2]; exact a.1)
  · obtain ⟨v, e, hl⟩ := h.ta i p hp
    exact ⟨v, e, hl.step (fun k a b c => ⟨hm k b c (.inr (.inr ⟨i, a⟩)), ht k c⟩)⟩
  · obtain ⟨v, e, hl⟩ := h.me i p hp
    exact ⟨v, e, hl.step hsz (fun k a b c => ⟨hm k b c (.inl a), ht k c⟩)⟩
theorem Mh.frame (h : Mh w W0 base m tag F L N G uF uT uX uM uG F' T M) (hsz : w.heap.size ≤ w1.heap.size) (hs : w1.heap[m]? = w.heap[m]?) (hm : ∀ k, base ≤ k → k < w.heap.size → (tag k = 0 ∨ tag k = 2 ∨ ∃ i, tag k = 4 + 2 * i) → w1.heap[k]? = w.heap[k]?) (ht : ∀ k, k < w.heap.size → tag1 k = tag k) : Mh w1 W0 base m tag1 F L N G uF uT uX uM uG F' T M := by
  refine ⟨?_, h.fl, h.tl, h.ml, h.fu, fun i p hp => ?_, fun i p hp => ?_⟩
  · have h1 := h.md.monoB (ok' := fun k => tag k = 2 ∧ k < w.heap.size) (fun k a b c => ⟨a, c⟩)
    have h2 := h1.step (w1 := w1) (fun k hk hlt => by
      rcases hk with ⟨a, b⟩ | rfl
      · exact hm k b hlt (.inr (.inl a.1))
      · exact hs)
    exact h2.monoB (fun k a b c => by rw [ht k a.2]; exact a.1)
  · obtain ⟨v, e, hl⟩ := h.ta i p hp
    exact ⟨v, e, hl.step (fun k a b c => ⟨hm k b c (.inr (.inr ⟨i, a⟩)), ht k c⟩)⟩
  · obtain ⟨v, e, hl⟩ := h.me i p hp
    exact ⟨v, e, hl.step hsz (fun k a b c => ⟨hm k b c (.inl a), ht k c⟩)⟩
/-- Nothing that was there has turned. -/
theorem Sh.below (h : Sh w base s tag F L N G vF vT vM vG T M) (hb : Below w.heap.size w w1) : Sh w1 base s tag F L N G vF vT vM vG T M := h.frame hb.size (hb.block _ h.st.row.lt) (fun k _ hk _ => hb.block k hk) (fun _ _ => rfl)
theorem Mh.below (h : Mh w W0 base m tag F L N G uF uT uX uM uG F' T M) (hb : Below w.heap.size w w1) : Mh w1 W0 base m tag F L N G uF uT uX uM uG F' T M := h.frame hb.size (hb.block _ h.md.row.lt) (fun k _ hk _ => hb.block k hk) (fun _ _ => rfl)
/-- The store's side has worked: only its own blocks have turned. -/
def SOnly (w w1 : World) (base s : Nat) (tag : Nat → Nat) : Prop := Only w w1 (fun k => k = s ∨ (base ≤ k ∧ ∃ i, tag k = 1 + 2 * i))
def MOnly (w w1 : World) (base m : Nat) (tag : Nat → Nat) : Prop := Only w w1 (fun k => k = m ∨ (base ≤ k ∧ ∃ i, tag k = 2 + 2 * i))
theorem Mh.other (h : Mh w W0 base m tag F L N G uF uT uX uM uG F' T M) (hO : SOnly w w1 base s tag) (hne : m ≠ s) (hsb : s < base) (ht : ∀ k, k < w.heap.size → tag1 k = tag k) : Mh w1 W0 base m tag1 F L N G uF uT uX uM uG F' T M := by
  refine h.frame hO.size (hO.block m h.md.row.lt ?_) (fun k hk hlt ht => hO.block k hlt ?_) ht
  · rintro (rfl | ⟨a, _⟩)
    · exact hne rfl
    · have := h.md.lo; omega
  · rintro (rfl | ⟨_, i, hi⟩)
    · omega
    · rcases ht with ht | ht | ⟨j, ht⟩ <;> omega
theorem Sh.other (h : Sh w base s tag F L N G vF vT vM vG T M) (hO : MOnly w w1 base m tag) (hne : s ≠ m) (hsb : m < base) (ht : ∀ k, k < w.heap.size → tag1 k = tag k) : Sh w1 base s tag1 F L N G vF vT vM vG T M := by
  refine h.frame hO.size (hO.block s h.st.row.lt ?_) (fun k hk hlt ht => hO.block k hlt ?_) ht
  · rintro (rfl | ⟨a, _⟩)
    · exact hne rfl
    · have := h.st.lo; omega
  · rintro (rfl | ⟨_, i, hi⟩)
    · omega
    · rcases ht with ht | ht | ⟨j, ht⟩ <;> omega
end
end Go.Proofs.Ytbelijoggbblgaa.Sp
