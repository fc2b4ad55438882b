/- Structs opened field by field; instructions, nested; a module. -/
import Derived.Test.YtbelijoggbblgaaOp0
namespace Go.Proofs.Ytbelijoggbblgaa.Ex
open Go.RowKit Go.WideShapes Go.ChangeShapes Go.Proofs.YtbelijoggbblgaaW.PrintWords Go.Proofs.YtbelijoggbblgaaW.PrintLast Go.Proofs.Ytbelijoggbblgaa.RStoreExports
set_option linter.unusedVariables false
set_option linter.unusedSimpArgs false
/-- How many cells values of these types take. -/
def cellsAll (P : Program) : List TypeId → Nat
  | [] => 0
  | t :: ts => P.cellsOf t + cellsAll P ts
def offsOk (P : Program) : List Field → Nat → Bool
  | [], _ => true
  | f :: fs, n => f.offset == n && offsOk P fs (n + P.cellsOf f.type)
set_option maxRecDepth 20000
section
variable {H : Type} (enc : TypeId × Value → H) (W : World) (spare : Nat → Bool) (held : Bool)
def RedF (fuel : Nat) : List TypeId → List Value → List (DataW H × List MemPlace) → Prop
  | [], _, _ => True
  | t :: ts, cs, ds => ∃ d r, ds = d :: r ∧ Red enc W spare held fuel t (cs.take (Try.prog.cellsOf t)) d ∧ RedF fuel ts (cs.drop (Try.prog.cellsOf t)) r
def OpensF {α : Type} (N : Nat) (k : Kd α) (ts : List TypeId) (B : α → Prop) : Prop :=
  ∀ (fuel : Nat) (cs : List Value) (ds : List (DataW H × List MemPlace)), fuel ≤ N → RedF enc W spare held fuel ts cs ds → ∃ a, k.K W a (cs.take (cellsAll Try.prog ts)) ∧ B a
variable {enc W spare held}
theorem opensF_one {α : Type} {N : Nat} {k : Kd α} {t : TypeId} {B : α → Prop} (h : Opens enc W spare held N k t B) : OpensF enc W spare held N k [t] B := fun f cs ds hf hx => by
  obtain ⟨d, r, _, hr, _⟩ := hx
  exact h f _ d hf hr
theorem opensF_cons {α β : Type} {N : Nat} {k : Kd α} {k' : Kd β} {t : TypeId} {ts : List TypeId} {B : α → Prop} {B' : β → Prop} (h : Opens enc W spare held N k t B) (h' : OpensF enc W spare held N k' ts B') : OpensF enc W spare held N (Kd.pair k k') (t :: ts) (fun p => B p.1 ∧ B' p.2) := fun f cs ds hf hx => by
  obtain ⟨d, r, _, hr, hrest⟩ := hx
  obtain ⟨a, ha, hb⟩ := h f _ d hf hr
  obtain ⟨a', ha', hb'⟩ := h' f _ r hf hrest
  refine ⟨(a, a'), ⟨_, _, ?_, ha, ha'⟩, hb, hb'⟩
  show cs.take (Try.prog.cellsOf t + cellsAll Try.prog ts) = _
  rw [List.take_add]
theorem redF_of {fuel : Nat} {cs : List Value} : ∀ (fs : List Field) (n : Nat) (ds : List (DataW H × List MemPlace)), offsOk Try.prog fs n = true → ds.length = fs.length →
    (∀ (i : Nat) (f : Field), fs[i]? = some f → DataW.trod enc Try.prog W 0 spare held fuel f.type ((cs.drop f.offset).take (Try.prog.cellsOf f.type)) = ds[i]?) →
    (∀ (i : Nat) (f : Field) d, fs[i]? = some f → ds[i]? = some d → ∀ m ∈ d.1.weights Try.prog f.type, m ≤ reachBytes) → RedF enc W spare held fuel (fs.map (·.type)) (cs.drop n) ds
  | [], _, _, _, _, _, _ => trivial
  | f :: fs, n, [], _, hl, _, _ => by simp at hl
  | f :: fs, n, d :: ds, ho, hl, ht, hw => by
    simp only [offsOk, Bool.and_eq_true, beq_iff_eq] at ho
    obtain ⟨ho1, ho2⟩ := ho
    refine ⟨d, ds, rfl, ⟨?_, hw 0 f d rfl rfl⟩, ?_⟩
    · have := ht 0 f rfl
      rw [ho1] at this
      exact this
    · rw [List.drop_drop]
      exact redF_of fs _ ds ho2 (by simpa using hl) (fun i g hg => ht (i + 1) g hg) (fun i g e hg he => hw (i + 1) g e hg he)
theorem opens_struct {α β : Type} {N : Nat} {k : Kd α} {t : TypeId} {fs : Array Field} {B : α → Prop} (f : β → α) (g : α → β) (hfg : ∀ a, f (g a) = a) (ts : List TypeId) (ht : Try.prog.underlying t = some (.struct fs)) (hts : fs.toList.map (·.type) = ts) (ho : offsOk Try.prog fs.toList 0 = true) (hc : Try.prog.cellsOf t = cellsAll Try.prog ts)
    (h : OpensF enc W spare held N k ts B) : Opens enc W spare held (N + 1) (Kd.iso k f) t (fun b => B (f b)) := fun fuel cs x hf hx => by
  obtain ⟨xs, n, rfl, hxe, hlen, hxl, hfd⟩ := DataW.trod_struct ht hx.1
  have hr : RedF enc W spare held n (fs.toList.map (·.type)) (cs.drop 0) xs := by
    refine redF_of fs.toList 0 xs ho (by simpa using hxl) (fun i f hf' => hfd i f (by simpa using hf')) (fun i f d hf' hd m hm => ?_)
    refine hx.2 m ?_
    rw [hxe]
    exact weigh_struct (j := i) ht (by rw [List.getElem?_map, hf']; rfl) (by rw [List.getElem?_map, hd]; rfl) hm
  rw [hts] at hr
  obtain ⟨a, ha, hb⟩ := h n cs xs (by omega) hr
  refine ⟨g a, ?_, ?_⟩
  · show k.K W (f (g a)) cs
    rw [hfg]
    rw [List.take_of_length_le (by rw [hlen, hc]; exact Nat.le_refl _)] at ha
    exact ha
  · show B (f (g a))
    rw [hfg]
    exact hb
end
end Go.Proofs.Ytbelijoggbblgaa.Ex
