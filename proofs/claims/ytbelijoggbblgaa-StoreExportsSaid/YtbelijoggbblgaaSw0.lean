import Derived.Below
import Derived.Deep.Draws
import Derived.Deep.AppendLies
import Derived.Maps.AppendAt
import Derived.OwnWalk
import Derived.Laws.BytesArg
import Derived.Laws.MakeOwn
import Derived.Laws.OwnMore
import Derived.Deep.OwnRows
import Derived.Tactics
import Derived.Lib.ConvBytes
import Derived.Laws.Slices
import Derived.WalkKit
import Derived.KernelRfl
import Derived.RowKit3
import Derived.Deep.LoopGhost
import Derived.Deep.QuietTactic
import Derived.BigQuiet
import Derived.WideLaws
import Derived.Deep.DeepCutAuto
import Derived.Deep.CutBlock
import Derived.Deep.RegionHeld3
import Derived.Laws.Rows
import Derived.Lib.AppendStr
import Derived.ArgAppend
import Derived.Laws.IdiomCopy
import Derived.OrdersHeld
import Derived.Laws.BitsLemmas
import Derived.RowKit
import Derived.WalkSpells
import Derived.Outline
import Derived.Test.YtbelijoggbblgaaProg
import Derived.Test.YtbelijoggbblgaaWWords
import Derived.Test.YtbelijoggbblgaaWLast
import Derived.Test.YtbelijoggbblgaaWTab
namespace Go.Proofs.Ytbelijoggbblgaa.St
open Go.RowKit Go.Proofs.YtbelijoggbblgaaW.PrintWords Go.Proofs.YtbelijoggbblgaaW.PrintLast
set_option linter.unusedVariables false
set_option linter.unusedSimpArgs false
/-- The block g of the heap is just these cells. -/
def Row (w : World) (g : Nat) (t : TypeId) (cs : Array Value) : Prop := w.heap[g]? = some (.cells cs t (0, 0))
theorem Row.cell {w : World} {g : Nat} {t : TypeId} {cs : Array Value} (h : Row w g t cs) (i : Nat) : w.cell? ⟨g, i, none⟩ = cs[i]? := cell_of_row w g i cs t (0, 0) h
theorem Row.lt {w : World} {g : Nat} {t : TypeId} {cs : Array Value} (h : Row w g t cs) : g < w.heap.size := by
  rcases Nat.lt_or_ge g w.heap.size with hlt | hge
  · exact hlt
  · unfold Row at h; rw [Array.getElem?_eq_none hge] at h; cases h
theorem Row.alloc {w : World} {g : Nat} {t : TypeId} {cs : Array Value} (h : Row w g t cs) (o : Obj) : Row (w.alloc o) g t cs := (Below.heap_alloc w o g h.lt).trans h
theorem Row.made (w : World) (t : TypeId) (cs : Array Value) {g : Nat} (h : g = w.heap.size) : Row (w.alloc (.cells cs t)) g t cs := by subst h; exact heap_alloc_new w _
theorem Row.frozen {w : World} {g : Nat} {t : TypeId} {cs : Array Value} (h : Row w g t cs) (i : Nat) : w.frozen? ⟨g, i, none⟩ = false := by
  unfold Row at h
  simp [World.frozen?, h]
theorem Row.put_ {w : World} {g : Nat} {t : TypeId} {cs : Array Value} (h : Row w g t cs) (i : Nat) (u : Value) : Row (w.setCell ⟨g, i, none⟩ u) g t (cs.setIfInBounds i u) := by
  unfold Row at h ⊢
  simp [World.setCell, Array.getElem?_modify, h]
theorem Row.off {w : World} {g : Nat} {t : TypeId} {cs : Array Value} (h : Row w g t cs) {p : Addr} (hp : g ≠ p.block) (u : Value) : Row (w.setCell p u) g t cs := (Below.heap_setCell w p u g hp).trans h
theorem Row.differ {w : World} {g g' : Nat} {t t' : TypeId} {cs cs' : Array Value} (h : Row w g t cs) (h' : Row w g' t' cs') (hne : t ≠ t') : g ≠ g' := by
  rintro rfl
  unfold Row at h h'
  rw [h] at h'
  simp at h'
  exact hne h'.2
theorem Row.below {w w' : World} {g B : Nat} {t : TypeId} {cs : Array Value} (h : Row w g t cs) (hb : Below B w w') (hg : g < B) : Row w' g t cs := (hb.block g hg).trans h
theorem Row.grown {w w' : World} {g : Nat} {t : TypeId} {cs : Array Value} (h : Row w g t cs) {row : Option Nat} (hg : w.grownBy w' row) (hne : row ≠ some g) : Row w' g t cs :=
  (hg.block g h.lt (fun e => hne e.symm)).trans h
theorem grown_set {a w : World} {b : Nat} (h : a.grownBy w (some b)) (i : Nat) (u : Value) : a.grownBy (w.setCell ⟨b, i, none⟩ u) (some b) :=
  ⟨h.os, h.tape, h.output, by simpa [World.setCell] using h.size, fun k hk hne => (Below.heap_setCell w ⟨b, i, none⟩ u k (by rintro rfl; exact hne rfl)).trans (h.block k hk hne)⟩
/-- All blocks but those that S names are as they were. -/
structure Only (w w' : World) (S : Nat → Prop) : Prop where
  os : w'.os = w.os
  tape : w'.tape = w.tape
  output : w'.output = w.output
  size : w.heap.size ≤ w'.heap.size
  block : ∀ k, k < w.heap.size → ¬ S k → w'.heap[k]? = w.heap[k]?
theorem Only.refl (w : World) (S : Nat → Prop) : Only w w S := ⟨rfl, rfl, rfl, Nat.le_refl _, fun _ _ _ => rfl⟩
theorem Only.drewN {w w' : World} {S : Nat → Prop} (h : Only w w' S) (n : Nat) : Only w (w'.drewN n) S := ⟨h.os, h.tape, h.output, h.size, h.block⟩
theorem Only.drew {w w' : World} {S : Nat → Prop} (h : Only w w' S) : Only w w'.drew S := ⟨h.os, h.tape, h.output, h.size, h.block⟩
theorem Only.of_below {w w' : World} {S : Nat → Prop} (h : Below w.heap.size w w') : Only w w' S := ⟨h.os, h.tape, h.output, h.size, fun k hk _ => h.block k hk⟩
theorem Only.grown {w w1 w2 : World} {S : Nat → Prop} (h : Only w w1 S) {row : Option Nat} (g : w1.grownBy w2 row) (hr : ∀ k, row = some k → S k ∨ w.heap.size ≤ k) : Only w w2 S :=
  ⟨g.os.trans h.os, g.tape.trans h.tape, g.output.trans h.output, Nat.le_trans h.size g.size, fun k hk hne => (g.block k (Nat.lt_of_lt_of_le hk h.size) (fun e => (hr k e.symm).elim hne (fun hz => by omega))).trans (h.block k hk hne)⟩
theorem Only.alloc {w w1 : World} {S : Nat → Prop} (h : Only w w1 S) (o : Obj) : Only w (w1.alloc o) S := h.grown (World.grownBy_alloc w1 o none) (fun k hk => by cases hk)
theorem Only.set {w w1 : World} {S : Nat → Prop} (h : Only w w1 S) {g i : Nat} (hg : S g ∨ w.heap.size ≤ g) (u : Value) : Only w (w1.setCell ⟨g, i, none⟩ u) S :=
  h.grown (grown_set (World.grownBy.refl w1 (some g)) i u) (fun k hk => by injection hk with hk; subst hk; exact hg)
theorem Only.trans {a b c : World} {S : Nat → Prop} (h : Only a b S) (k : Only b c S) : Only a c S :=
  ⟨k.os.trans h.os, k.tape.trans h.tape, k.output.trans h.output, Nat.le_trans h.size k.size, fun i hi hs => (k.block i (Nat.lt_of_lt_of_le hi h.size) hs).trans (h.block i hi hs)⟩
theorem Only.below {B : Nat} {a w w' : World} {S : Nat → Prop} (h : Below B a w) (k : Only w w' S) (hB : B ≤ w.heap.size) (hS : ∀ i, S i → B ≤ i) : Below B a w' :=
  h.trans ⟨k.os, k.tape, k.output, k.size, fun i hi => k.block i (Nat.lt_of_lt_of_le hi hB) (fun hs => by have := hS i hs; omega)⟩
def blk (A : Option Addr) : Option Nat := A.map (·.block)
theorem ownBlock_slice (A : Option Addr) (n c : Nat) : (Value.slice A n c).ownBlock = blk A := by cases A <;> rfl
theorem info3 : (Try.prog.info? 3).map (fun i => (i.zero, i.size, i.bytes)) = some (some (.int .i64 0), 1, 8) := by kernel_rfl
abbrev I64 : Kd Int := Kd.int .i64
theorem fits {n : Nat} (h : n * 8 ≤ 140737488351232) : n ≤ maxLen := by unfold maxLen; omega
/-- slices.Clone of whole numbers. -/
theorem clone_calls {w : World} {A : Option Addr} {c : Nat} {xs : List Int} (h : I64.C w A xs.length xs) (hc : xs.length ≤ c) (hn : xs.length * 8 ≤ 140737488351232) :
    Calls Try.prog 25 #[.slice A xs.length c] w fun e w' => ∃ A' c', e = .returned (.slice A' xs.length c') ∧ I64.R 3 w' w.heap.size (fun _ => True) (.slice A' xs.length c') xs ∧ Below w.heap.size w w' := by
  have hnil := @Lib.run_eql_slice_nil Try.prog
  cases A with
  | none =>
    have hl : xs.length = 0 := by
      rcases Nat.eq_zero_or_pos xs.length with h0 | h0
      · exact h0
      · obtain ⟨ad, e, _⟩ := h.2.2 h0; cases e
    obtain rfl : xs = [] := List.eq_nil_of_length_eq_zero hl
    clear h
    go_enter Try.func25, Try.ntmps25
    go_wp2
    go_ret
    exact ⟨none, 0, rfl, Kd.R_nil _ _ _ _ _, Below.refl _ _⟩
  | some ad =>
    obtain ⟨i0, hi, hz0, hz1, hz2⟩ := info_parts info3
    have H := Aside0.mk (Kd.reads_of_C (d := (0 : Int)) (h1 := fun _ => rfl) (Kd.C_below h (below_alloc (Below.refl w.heap.size w) (.cells #[] 3))))
    have HN := Aside0.mk hn
    clear h hn
    go_enter Try.func25, Try.ntmps25
    go_wp2_with (at_builtin; refine wpList_append_own _ rfl (.tmp 5) (.tmp 6) 23 rfl w.heap.size 3 i0 (.int .i64 0) 1 8 Try.underlying23 hi hz0 hz1 hz2 rfl (by decide) _ 0 [] rfl (World.ownsRow_made w #[] 0 (Nat.le_refl _) (by decide) rfl) ad xs.length c (nums .i64 xs) rfl ?c1 ?c2 ?c3 ?c4 ?c5 ?c6 ?_)
    case c1 => simp [nums]
    case c2 =>
      intro j u hj
      rw [List.getElem?_eq_some_iff] at hj
      obtain ⟨hl, hu⟩ := hj
      have hl2 : j < xs.length := by rw [nums_length] at hl; exact hl
      obtain ⟨ad', e, hcell⟩ := H.out.2.2 (Nat.lt_of_le_of_lt (Nat.zero_le _) hl2)
      obtain rfl := Option.some.inj e
      have := hcell j hl2
      rw [← hu]
      simpa [nums, List.getD, hl2] using this
    case c3 => exact ints_oneCell .i64 xs
    case c4 => rw [Nat.zero_add]; exact fits HN.out
    case c5 => have := HN.out; omega
    case c6 => simp
    intro v1 w1 hown hgrow _
    have hB : Below w.heap.size w w1 := (below_alloc (Below.refl w.heap.size w) (.cells #[] 3)).grown hgrow (by simp) (by intro k hk; simp [Value.ownBlock] at hk; omega)
    go_wp2
    go_ret
    have hR : I64.R 3 w1 w.heap.size (fun _ => True) v1 xs := by
      refine Kd.R_of_own ?_ (fun _ _ => trivial)
      simpa [nums, encs] using hown
    obtain ⟨A', c', rfl⟩ := Kd.R_slice hR
    exact ⟨A', c', rfl, hR, hB⟩
theorem R_past {α : Type} {d : Kd α} {e : Nat} {w : World} {base : Nat} {ok : Nat → Prop} {v : Value} {xs : List α} (h : d.R e w base ok v xs) {p : Addr} (hp : p.block < base) (u : Value) : d.R e (w.setCell p u) base ok v xs :=
  Kd.R_mono (Kd.R_far (Kd.R_bound h) (fun k hk => by have := hk.2.1; omega) u) (fun k hk => hk.1)
theorem R_grown' {α : Type} {d : Kd α} {e : Nat} {w w1 : World} {base : Nat} {ok : Nat → Prop} {v : Value} {xs : List α} (h : d.R e w base ok v xs) {B : Nat} (hb : Below B w w1) (hB : w.heap.size ≤ B) : d.R e w1 base ok v xs := Kd.R_step h (fun k _ hk => hb.block k (Nat.lt_of_lt_of_le hk hB))
theorem below_mono {B C : Nat} {w w1 : World} (h : Below C w w1) (hB : B ≤ C) : Below B w w1 := ⟨h.os, h.tape, h.output, h.size, fun k hk => h.block k (Nat.lt_of_lt_of_le hk hB)⟩
/-- A type in new memory. -/
theorem copied_calls {w : World} {A B : Option Addr} {c d : Nat} {xs ys : List Int} (h : I64.C w A xs.length xs) (hc : xs.length ≤ c) (hn : xs.length * 8 ≤ 140737488351232) (k : I64.C w B ys.length ys) (hd : ys.length ≤ d) (kn : ys.length * 8 ≤ 140737488351232) :
    Calls Try.prog 22 #[.agg #[.slice A xs.length c, .slice B ys.length d]] w fun e w' => ∃ A' c' B' d', e = .returned (.agg #[.slice A' xs.length c', .slice B' ys.length d']) ∧ I64.R 3 w' w.heap.size (fun _ => True) (.slice A' xs.length c') xs ∧ I64.R 3 w' w.heap.size (fun _ => True) (.slice B' ys.length d') ys ∧ Below w.heap.size w w' := by
  have H := Aside0.mk h
  have K := Aside0.mk k
  have cl1 := fun (W : World) (hB : Below w.heap.size w W) => clone_calls (Kd.C_below H.out hB) hc hn
  have cl2 := fun (W : World) (hB : Below w.heap.size w W) => clone_calls (Kd.C_below K.out hB) hd kn
  have C1 := Aside0.mk cl1
  have C2 := Aside0.mk cl2
  clear h k cl1 cl2 hn kn
  go_enter Try.func22, Try.ntmps22
  go_wp2
  have hb0 : Below w.heap.size w ((w.alloc (.cells #[.slice A xs.length c, .slice B ys.length d] 25)).alloc (.cells #[.slice none 0 0, .slice none 0 0] 25)).drew := (below_alloc (below_alloc (Below.refl _ _) _) _).drew
  have hs0 : w.heap.size + 2 ≤ ((w.alloc (.cells #[.slice A xs.length c, .slice B ys.length d] 25)).alloc (.cells #[.slice none 0 0, .slice none 0 0] 25)).drew.heap.size := by simp
  have hr0 : Row ((w.alloc (.cells #[.slice A xs.length c, .slice B ys.length d] 25)).alloc (.cells #[.slice none 0 0, .slice none 0 0] 25)).drew w.heap.size 25 #[.slice A xs.length c, .slice B ys.length d] := (Row.made w _ _ rfl).alloc _
  have hr1 : Row ((w.alloc (.cells #[.slice A xs.length c, .slice B ys.length d] 25)).alloc (.cells #[.slice none 0 0, .slice none 0 0] 25)).drew (w.heap.size + 1) 25 #[.slice none 0 0, .slice none 0 0] := (Row.made _ _ _ (by simp))
  have Hb0 := Aside0.mk hb0
  have Hs0 := Aside0.mk hs0
  have Hr0 := Aside0.mk hr0
  have Hr1 := Aside0.mk hr1
  clear hb0 hs0 hr0 hr1
  go_region_held3 (fun w' => w'.cell? ⟨w.heap.size, 0, none⟩ = some (.slice A xs.length c) ∧ w'.cell? ⟨w.heap.size, 1, none⟩ = some (.slice B ys.length d))
    ((go_split_ands; refine ⟨?_, ?_⟩) <;> first | (simp; done) | assumption | go_keep)
    (first
      | (go_at_call 25; refine (C1.out _ Hb0.out).mono ?_; rintro e w1 ⟨A1, c1, rfl, hR1, hB1⟩; have l1 := Nat.le_trans Hs0.out hB1.size; have r1 := Hr0.out.below hB1 Hr0.out.lt; have r1' := Hr1.out.below hB1 Hr1.out.lt; have b1 := Hb0.out.trans (below_mono hB1 Hb0.out.size); have R1 := Aside0.mk (Kd.R_lower hR1 Hs0.out); clear hR1 hB1; have q0 := r1.cell 0; have q1 := r1.cell 1; simp only [List.getElem?_toArray, List.getElem?_cons_zero, List.getElem?_cons_succ] at q0 q1)
      | (go_at_call 25; refine (C2.out _ b1).mono ?_; rintro e w2 ⟨A2, c2, rfl, hR2, hB2⟩; have l2 := Nat.le_trans l1 hB2.size; have r2 := r1.below hB2 r1.lt; have r2' := r1'.below hB2 r1'.lt; have b2 := b1.trans (below_mono hB2 b1.size); have R2 := Aside0.mk (Kd.R_lower hR2 l1); have R1' := Aside0.mk (Kd.R_below R1.out hB2); clear hR2 hB2; have q0 := r2.cell 0; have q1 := r2.cell 1; have q2 := r2'.cell 0; have q3 := r2'.cell 1; have z2 := r2'.frozen 0; have z3 := r2'.frozen 1; simp only [List.getElem?_toArray, List.getElem?_cons_zero, List.getElem?_cons_succ] at q0 q1 q2 q3))

  have r3 := (r2'.put_ 0 (.slice A1 xs.length c1)).put_ 1 (.slice A2 ys.length c2)
  have y0 := r3.cell 0
  have y1 := r3.cell 1
  simp only [List.getElem?_toArray, List.getElem?_cons_zero, List.getElem?_cons_succ, List.setIfInBounds_toArray, List.set_cons_zero, List.set_cons_succ] at y0 y1
  go_wp2
  try simp only [Exit.inBlock, Exit.then]
  refine bodyPost_ret (results_cell_row rfl _ _ (w.heap.size + 1) 25 _ _ _ rfl r3 Try.underlying25 rfl (by kernel_rfl)) rfl ?_
  refine ⟨A1, c1, A2, c2, rfl, ?_, ?_, ?_⟩
  · exact Kd.R_lower (R_past (R_past R1'.out (p := ⟨_, 0, none⟩) (by simp) _) (p := ⟨_, 1, none⟩) (by simp) _) (by omega)
  · exact Kd.R_lower (R_past (R_past R2.out (p := ⟨_, 0, none⟩) (by simp) _) (p := ⟨_, 1, none⟩) (by simp) _) (by omega)
  · exact (b2.setCell (p := ⟨_, 0, none⟩) (by simp) _).setCell (p := ⟨_, 1, none⟩) (by simp) _
end Go.Proofs.Ytbelijoggbblgaa.St
