/- Arguments opened: a slice of whatever kind, by what one element is; bytes; structs. -/
import Derived.Test.YtiicmihecdeebaaWWords
import Derived.Deep.Slices
import Derived.OpenShut
import Derived.ChangeShapes
import Derived.SizedLaws
namespace Go.Proofs.Ytiicmihecdeebaa.Op
open Go.RowKit Go.WideShapes Go.ChangeShapes Go.Proofs.YtiicmihecdeebaaW.PrintWords
set_option linter.unusedVariables false
set_option linter.unusedSimpArgs false
theorem wf_u8 {n : Int} (h : (Lit.int .u8 n).wf = true) : 0 ≤ n ∧ n < 256 := by
  simp [Lit.wf, IntKind.min, IntKind.max, IntKind.signed, IntKind.bits] at h; omega
theorem wf_i64 {n : Int} (h : (Lit.int .i64 n).wf = true) : -9223372036854775808 ≤ n ∧ n < 9223372036854775808 := by
  simp [Lit.wf, IntKind.min, IntKind.max, IntKind.signed, IntKind.bits] at h; omega
theorem wf_u64 {n : Int} (h : (Lit.int .u64 n).wf = true) : 0 ≤ n ∧ n < 18446744073709551616 := by
  simp [Lit.wf, IntKind.min, IntKind.max, IntKind.signed, IntKind.bits] at h; omega
theorem mem_all {H : Type} {P : Program} {e : TypeId} {d : DataW H} {m : Nat} : ∀ {l : List (DataW H)}, d ∈ l → m ∈ d.weights P e → m ∈ DataW.weightsAll P e l
  | [], h, _ => by cases h
  | d0 :: r, h, hm => by
    unfold DataW.weightsAll
    rcases List.mem_cons.1 h with rfl | h'
    · exact List.mem_append_left _ hm
    · exact List.mem_append_right _ (mem_all h' hm)
theorem mem_struct {H : Type} {P : Program} {t t' : TypeId} {fs : Array Field} {parts : List (DataW H)} {d : DataW H} {j m : Nat} (hu : P.underlying t = some (.struct fs)) (ht : (fs.toList.map (·.type))[j]? = some t') (hd : parts[j]? = some d) (hm : m ∈ d.weights P t') : m ∈ (DataW.agg parts).weights P t := by
  simp only [DataW.weights, hu]
  exact DataW.weights_mem_each ht hd m hm
section
variable {H : Type} {enc : TypeId × Value → H} {P : Program} {W : World} {spare : Nat → Bool} {held : Bool}
/-- A slice that came in, of elements of kind d; Q: what is known of each. -/
theorem open_row {α : Type} (d : Kd α) (z : α) (Q : α → Prop) {t e : TypeId} {bytes : Nat} (ht : P.underlying t = some (.slice e)) (hsz : P.cellsOf e = d.sz) (hby : P.bytesOf e = bytes) {fuel : Nat} {v : Value} {x : DataW H × List MemPlace}
    (h : DataW.trod enc P W 0 spare held fuel t [v] = some x) (hw : ∀ m ∈ x.1.weights P t, m ≤ reachBytes)
    (each : ∀ (k : Nat) (cs : List Value) (y : DataW H × List MemPlace), DataW.trod enc P W 0 spare held k e cs = some y → (∀ m ∈ y.1.weights P e, m ≤ reachBytes) → cs.length = d.sz → ∃ a : α, d.K W a cs ∧ Q a) :
    ∃ (A : Option Addr) (c : Nat) (l : List α), v = .slice A l.length c ∧ d.C W A l.length l ∧ l.length ≤ c ∧ (∀ a ∈ l, Q a) ∧ l.length * bytes ≤ 140737488351232 := by
  rcases Deep.open_slice ht h with ⟨hcs, _⟩ | ⟨a, len, cap, m, n, D, Pl, hcs, _, hl, hm, hmm, hX, hx⟩
  · injection hcs with hcs _
    exact ⟨none, 0, [], hcs, Kd.C_nil d W, Nat.le_refl _, (fun a ha => by cases ha), by simp⟩
  · injection hcs with hcs _
    have hD : ∀ i, i < len → ∀ k ∈ (D i).weights P e, k ≤ reachBytes := by
      intro i hi k hk
      refine hw k ?_
      rw [hX]
      simp only [DataW.weights, ht]
      exact List.mem_cons_of_mem _ (List.mem_append_left _ (mem_all (List.mem_map.2 ⟨i, List.mem_range.2 hi, rfl⟩) hk))
    have hE : ∀ i, i < len → ∃ y : α × List Value, d.K W y.1 y.2 ∧ Q y.1 ∧ y.2.length = d.sz ∧ ∀ j u, y.2[j]? = some u → W.cell? (a.add (i * d.sz + j)) = some u := by
      intro i hi
      obtain ⟨cs', hc', htr⟩ := hx i (by rw [hmm]; split <;> omega)
      rw [hsz] at hc'
      obtain ⟨_, hlen, hcell⟩ := World.cells?_some hc'
      obtain ⟨s, hK, hQ⟩ := each n cs' (D i, Pl i) htr (hD i hi) hlen
      refine ⟨(s, cs'), hK, hQ, hlen, fun j u hu => ?_⟩
      have hj : j < d.sz := by rw [← hlen]; exact (List.getElem?_eq_some_iff.1 hu).1
      have hc2 := hcell j hj
      rw [add_add] at hc2
      rw [hc2]
      exact hu
    obtain ⟨f, hf⟩ : ∃ f : Nat → α × List Value, ∀ i, i < len → d.K W (f i).1 (f i).2 ∧ Q (f i).1 ∧ (f i).2.length = d.sz ∧ ∀ j u, (f i).2[j]? = some u → W.cell? (a.add (i * d.sz + j)) = some u :=
      ⟨fun i => if hi : i < len then Classical.choose (hE i hi) else (z, []), fun i hi => by
        simp only [dif_pos hi]; exact Classical.choose_spec (hE i hi)⟩
    refine ⟨some a, cap, (List.range len).map fun i => (f i).1, by simp [hcs], ?_, by simpa using hl, ?_, ?_⟩
    · refine ⟨rfl, by simp; unfold maxLen at hm; omega, fun hp => ⟨a, rfl, fun j p hj => ?_⟩⟩
      obtain ⟨hj1, hj2⟩ := List.getElem?_eq_some_iff.1 hj
      have hjl : j < len := by simpa using hj1
      have e1 : p = (f j).1 := by rw [← hj2]; simp
      obtain ⟨k1, _, k2, k3⟩ := hf j hjl
      exact ⟨(f j).2, k2, by rw [e1]; exact k1, k3⟩
    · intro s hs
      obtain ⟨i, hi, rfl⟩ := List.mem_map.1 hs
      exact (hf i (List.mem_range.1 hi)).2.1
    · have hz := hw (((((List.range len).map D).length + ((List.range (m - len)).map fun j => D (len + j)).length)) * P.bytesOf e) (by rw [hX]; simp [DataW.weights, ht])
      rw [hby] at hz
      simp only [List.length_map, List.length_range] at hz ⊢
      unfold reachBytes at hz
      have : len * bytes ≤ (len + (m - len)) * bytes := Nat.mul_le_mul_right _ (Nat.le_add_right _ _)
      omega
/-- A slice of whole numbers. -/
theorem open_nums {k : IntKind} {t e : TypeId} {bytes : Nat} (ht : P.underlying t = some (.slice e)) (he : P.underlying e = some (.int k)) (hc : P.cellsOf e = 1) (hby : P.bytesOf e = bytes) {fuel : Nat} {v : Value} {x : DataW H × List MemPlace}
    (h : DataW.trod enc P W 0 spare held fuel t [v] = some x) (hw : ∀ m ∈ x.1.weights P t, m ≤ reachBytes) :
    ∃ (A : Option Addr) (c : Nat) (l : List Int), v = .slice A l.length c ∧ (Kd.int k).C W A l.length l ∧ l.length ≤ c ∧ (∀ a ∈ l, (Lit.int k a).wf = true) ∧ l.length * bytes ≤ 140737488351232 :=
  open_row (Kd.int k) 0 (fun a => (Lit.int k a).wf = true) ht hc hby h hw fun n cs y htr _ hl => by
    match cs, hl with
    | [v], _ =>
      obtain ⟨a, e1, _, e2⟩ := DataW.trod_int he htr
      injection e1 with e1 _
      subst e1
      exact ⟨a, rfl, e2⟩
end
end Go.Proofs.Ytiicmihecdeebaa.Op
