/- What an argument's reading says of it, kind by kind: opened by combinators, with the bounds of every list inside. -/
import Derived.Test.YtbelijoggbblgaaEx7
import Derived.Deep.Slices
import Derived.ChangeShapes
import Derived.SizedLaws
namespace Go.Proofs.Ytbelijoggbblgaa.Ex
open Go.RowKit Go.WideShapes Go.ChangeShapes Go.Proofs.YtbelijoggbblgaaW.PrintWords Go.Proofs.YtbelijoggbblgaaW.PrintLast Go.Proofs.Ytbelijoggbblgaa.RStoreExports
set_option linter.unusedVariables false
set_option linter.unusedSimpArgs false
theorem weigh_all {H : Type} {P : Program} {e : TypeId} {d : DataW H} {m : Nat} : ∀ {l : List (DataW H)}, d ∈ l → m ∈ d.weights P e → m ∈ DataW.weightsAll P e l
  | [], h, _ => by cases h
  | d0 :: r, h, hm => by
    unfold DataW.weightsAll
    rcases List.mem_cons.1 h with rfl | h'
    · exact List.mem_append_left _ hm
    · exact List.mem_append_right _ (weigh_all h' hm)
theorem weigh_struct {H : Type} {P : Program} {t t' : TypeId} {fs : Array Field} {parts : List (DataW H)} {d : DataW H} {j m : Nat} (hu : P.underlying t = some (.struct fs)) (ht : (fs.toList.map (·.type))[j]? = some t') (hd : parts[j]? = some d) (hm : m ∈ d.weights P t') : m ∈ (DataW.agg parts).weights P t := by
  simp only [DataW.weights, hu]
  exact DataW.weights_mem_each ht hd m hm
section
variable {H : Type} (enc : TypeId × Value → H) (W : World) (spare : Nat → Bool) (held : Bool)
abbrev Red (fuel : Nat) (t : TypeId) (cs : List Value) (x : DataW H × List MemPlace) : Prop := DataW.trod enc Try.prog W 0 spare held fuel t cs = some x ∧ ∀ m ∈ x.1.weights Try.prog t, m ≤ reachBytes
/-- What is read as of type t, with at most N in hand, is of the kind k, and B holds of it. -/
def Opens {α : Type} (N : Nat) (k : Kd α) (t : TypeId) (B : α → Prop) : Prop :=
  ∀ (fuel : Nat) (cs : List Value) (x : DataW H × List MemPlace), fuel ≤ N → Red enc W spare held fuel t cs x → ∃ a, k.K W a cs ∧ B a
variable {enc W spare held}
theorem Opens.imp {α : Type} {N : Nat} {k : Kd α} {t : TypeId} {B B' : α → Prop} (h : Opens enc W spare held N k t B) (hb : ∀ a, B a → B' a) : Opens enc W spare held N k t B' := fun f cs x hf hx => by
  obtain ⟨a, h1, h2⟩ := h f cs x hf hx
  exact ⟨a, h1, hb a h2⟩
theorem opens_int {N : Nat} {t : TypeId} {k : IntKind} (ht : Try.prog.underlying t = some (.int k)) : Opens enc W spare held N (Kd.int k) t (fun _ => True) := fun f cs x _ hx => by
  obtain ⟨n, rfl, _, _⟩ := DataW.trod_int ht hx.1
  exact ⟨n, rfl, trivial⟩
theorem opens_bool {N : Nat} {t : TypeId} (ht : Try.prog.underlying t = some .bool) : Opens enc W spare held N Kd.bool t (fun _ => True) := fun f cs x _ hx => by
  obtain ⟨b, rfl, _⟩ := DataW.trod_bool ht hx.1
  exact ⟨b, rfl, trivial⟩
theorem opens_string {N : Nat} {t : TypeId} (ht : Try.prog.underlying t = some .string) : Opens enc W spare held N Kd.string t (fun _ => True) := fun f cs x _ hx => by
  obtain ⟨b, rfl, _, _⟩ := DataW.trod_string ht hx.1
  exact ⟨b, rfl, trivial⟩
theorem choose_list {α : Type} (R : Nat → α → Prop) : ∀ (n : Nat), (∀ i, i < n → ∃ a, R i a) → ∃ l : List α, l.length = n ∧ ∀ i a, l[i]? = some a → R i a
  | 0, _ => ⟨[], rfl, fun i a h => by simp at h⟩
  | n + 1, h => by
    obtain ⟨l, hl, hr⟩ := choose_list R n (fun i hi => h i (by omega))
    obtain ⟨a, ha⟩ := h n (by omega)
    refine ⟨l ++ [a], by simp [hl], fun i b hb => ?_⟩
    rcases Nat.lt_or_ge i n with hi | hi
    · rw [List.getElem?_append_left (by omega)] at hb
      exact hr i b hb
    · rw [List.getElem?_append_right (by omega)] at hb
      have : i - l.length = 0 := by
        rcases Nat.eq_zero_or_pos (i - l.length) with h0 | h0
        · exact h0
        · rw [List.getElem?_eq_none (by simp; omega)] at hb; cases hb
      rw [this] at hb
      simp at hb
      subst hb
      obtain rfl : i = n := by omega
      exact ha
theorem row_cells {ad : Addr} {m s : Nat} {c : List Value} (h : W.cells? 0 (ad.add m) s = some c) : c.length = s ∧ ∀ (i : Nat) u, c[i]? = some u → W.cell? (ad.add (m + i)) = some u := by
  obtain ⟨_, hlen, hcell⟩ := World.cells?_some h
  refine ⟨hlen, fun i u hu => ?_⟩
  have hi : i < s := by rw [← hlen]; exact (List.getElem?_eq_some_iff.1 hu).1
  have hq := hcell i hi
  rw [hu] at hq
  rw [← hq]
  congr 1
  unfold Addr.add
  rcases Nat.eq_zero_or_pos i with h0 | h0
  · subst h0; simp
  · rw [if_neg (by omega)]
    by_cases h1 : m = 0
    · rw [if_pos h1, if_neg (by omega)]
      simp [h1]
    · rw [if_neg h1, if_neg (by omega)]
      simp; omega
/-- A slice: of each element the same is known, and memory holds them all. -/
theorem opens_slice {α : Type} {N : Nat} {k : Kd α} {t e : TypeId} {B : α → Prop} (bytes : Nat) (ht : Try.prog.underlying t = some (.slice e)) (hsz : Try.prog.cellsOf e = k.sz) (hby : Try.prog.bytesOf e = bytes) (h : Opens enc W spare held N k e B) :
    Opens enc W spare held (N + 1) (Kd.slice e k) t (fun l => l.length * bytes ≤ reachBytes ∧ ∀ a ∈ l, B a) := fun f cs x hf hx => by
  rcases DataW.trod_slice ht hx.1 with ⟨rfl, _⟩ | ⟨ad, len, cap, elems, rest, n, rfl, rfl, hxe, _, hl, hm, hle, hel, _, _⟩
  · exact ⟨[], ⟨none, 0, rfl, Nat.le_refl _, Kd.C_nil _ _⟩, by simp, fun a ha => by cases ha⟩
  · have hw : ∀ (i : Nat) (y : DataW H × List MemPlace), elems[i]? = some y → ∀ m ∈ y.1.weights Try.prog e, m ≤ reachBytes := fun i y hy m hm' => by
      refine hx.2 m ?_
      rw [hxe]
      simp only [DataW.weights, ht]
      exact List.mem_cons_of_mem _ (List.mem_append_left _ (weigh_all (d := y.1) (List.mem_map.2 ⟨y, List.mem_of_getElem? hy, rfl⟩) hm'))
    obtain ⟨l, hll, hlr⟩ := choose_list (fun i a => ∃ c, (W.cells? 0 (ad.add (i * Try.prog.cellsOf e)) (Try.prog.cellsOf e)) = some c ∧ k.K W a c ∧ B a) len (fun i hi => by
      have hi2 := hel i hi
      rw [List.getElem?_eq_getElem (by omega)] at hi2
      obtain ⟨c, hc, hc2⟩ := Option.bind_eq_some_iff.1 hi2
      obtain ⟨a, ha, hb⟩ := h n c elems[i] (by omega) ⟨hc2, hw i _ (List.getElem?_eq_getElem (by omega))⟩
      exact ⟨a, c, hc, ha, hb⟩)
    refine ⟨l, ⟨some ad, cap, by rw [hll], by omega, rfl, by unfold maxLen at hm; omega, fun _ => ⟨ad, rfl, fun j p hj => ?_⟩⟩, ?_, fun a ha => ?_⟩
    · obtain ⟨c, hc, hk, _⟩ := hlr j p hj
      rw [hsz] at hc
      obtain ⟨q1, q2⟩ := row_cells hc
      exact ⟨c, q1, hk, q2⟩
    · have z := hx.2 ((elems.map (·.1)).length * Try.prog.bytesOf e + 0 + (rest.map (·.1)).length * Try.prog.bytesOf e) (by
        rw [hxe]
        simp only [DataW.weights, ht]
        rw [Nat.add_zero, ← Nat.add_mul]
        exact List.mem_cons_self)
      rw [hby] at z
      simp only [List.length_map] at z
      rw [hll]
      have : len * bytes ≤ elems.length * bytes := by rw [hle]; exact Nat.le_refl _
      omega
    · obtain ⟨i, hi⟩ := List.mem_iff_getElem?.1 ha
      obtain ⟨_, _, _, hb⟩ := hlr i a hi
      exact hb
end
end Go.Proofs.Ytbelijoggbblgaa.Ex
