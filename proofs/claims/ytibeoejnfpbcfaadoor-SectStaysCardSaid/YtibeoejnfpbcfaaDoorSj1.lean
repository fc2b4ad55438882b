/- A row of bytes of the call's own, or a constant's bytes that were converted (the model marks the place behind them): words as the print's for own rows, up to the first append. -/
import Derived.Test.YtibeoejnfpbcfaaDoorWMore
import Derived.ArgAppend
import Derived.Lib.SlBytesConst
namespace Go.Proofs.YtibeoejnfpbcfaaDoor.Mk
open Go.RowKit Go.Proofs.YtibeoejnfpbcfaaDoorW.PrintWords Go.Proofs.YtibeoejnfpbcfaaDoorW.PrintLast Go.Proofs.YtibeoejnfpbcfaaDoorW.PrintMore
set_option linter.unusedVariables false
set_option linter.unusedSimpArgs false
def Marked (e : Nat) (w : World) (base : Nat) (ok : Nat → Prop) (v : Value) (xs : List Int) : Prop :=
  ∃ g, v = .slice (some ⟨g, 0, none⟩) xs.length xs.length ∧ ok g ∧ base ≤ g ∧ xs.length ≤ 100000 ∧ w.heap[g]? = some (.cells (nums .u8 xs).toArray e (xs.length, xs.length + 1))
def R (d : Kd Int) (e : Nat) (w : World) (base : Nat) (ok : Nat → Prop) (v : Value) (xs : List Int) : Prop := d.R e w base ok v xs ∨ (d = Kd.int .u8 ∧ Marked e w base ok v xs)
section
variable {d : Kd Int} {e : Nat} {w w1 : World} {base : Nat} {ok ok' : Nat → Prop} {v : Value} {xs : List Int}
theorem of (h : d.R e w base ok v xs) : R d e w base ok v xs := .inl h
theorem R_mono (h : R d e w base ok v xs) (hok : ∀ k, ok k → ok' k) : R d e w base ok' v xs := by
  rcases h with h | ⟨hd, g, h1, h2, h3⟩
  · exact .inl (Kd.R_mono h hok)
  · exact .inr ⟨hd, g, h1, hok g h2, h3⟩
theorem R_step (h : R d e w base ok v xs) (hm : ∀ k, ok k → k < w.heap.size → w1.heap[k]? = w.heap[k]?) : R d e w1 base ok v xs := by
  rcases h with h | ⟨hd, g, h1, h2, h3, h4, h5⟩
  · exact .inl (Kd.R_step h hm)
  · exact .inr ⟨hd, g, h1, h2, h3, h4, (hm g h2 (blk_lt h5)).trans h5⟩
theorem R_below (h : R d e w base ok v xs) (hb : Below w.heap.size w w1) : R d e w1 base ok v xs := R_step h (fun k _ hk => hb.block k hk)
theorem R_alloc (h : R d e w base ok v xs) (o : Obj) : R d e (w.alloc o) base ok v xs := R_below h (below_alloc (Below.refl _ _) o)
theorem R_drew (h : R d e w base ok v xs) : R d e w.drew base ok v xs := R_below h (below_drew (Below.refl _ _))
theorem R_drewN (h : R d e w base ok v xs) (m : Nat) : R d e (w.drewN m) base ok v xs := R_below h (pw_below_drewN (Below.refl _ _) m)
theorem R_far (h : R d e w base ok v xs) {p : Addr} (hok : ∀ k, ok k → k ≠ p.block) (u : Value) : R d e (w.setCell p u) base ok v xs := R_step h (fun k ho _ => Below.heap_setCell w p u k (hok k ho))
theorem R_types (h : R d e w base ok v xs) {g t : Nat} {cells : Array Value} (hb : w.heap[g]? = some (.cells cells t (0, 0))) (ht : ∀ q, q ∈ e :: d.E → q ≠ t) : R d e w base (fun k => ok k ∧ k ≠ g) v xs := by
  rcases h with h | ⟨hd, g', h1, h2, h3, h4, h5⟩
  · exact .inl (Kd.R_types h hb ht)
  · refine .inr ⟨hd, g', h1, ⟨h2, ?_⟩, h3, h4, h5⟩
    rintro rfl
    rw [h5] at hb
    injection hb with hb
    injection hb with _ hb
    exact ht e (List.mem_cons_self ..) hb
theorem R_ne (h : R d e w base ok v xs) {g t : Nat} {cells : Array Value} (hb : w.heap[g]? = some (.cells cells t (0, 0))) (ht : e ≠ t) : some g ≠ v.ownBlock := by
  rcases h with h | ⟨hd, g', h1, h2, h3, h4, h5⟩
  · exact Kd.R_ne h hb ht
  · subst h1
    intro he
    have he' : g = g' := by simpa [Value.ownBlock] using he
    subst he'
    rw [h5] at hb
    injection hb with hb
    injection hb with _ hb
    exact ht hb
theorem R_slice (h : R d e w base ok v xs) : ∃ A c, v = .slice A xs.length c := by
  rcases h with h | ⟨hd, g, h1, _⟩
  · exact Kd.R_slice h
  · exact ⟨_, _, h1⟩
end
theorem start (w : World) : R (Kd.int .u8) 5 (w.alloc (.cells #[.int .u8 0, .int .u8 97, .int .u8 115, .int .u8 109, .int .u8 1, .int .u8 0, .int .u8 0, .int .u8 0] 5 (8, 9))) w.heap.size (fun _ => True) (.slice (some ⟨w.heap.size, 0, none⟩) 8 8) [0, 97, 115, 109, 1, 0, 0, 0] :=
  .inr ⟨rfl, w.heap.size, rfl, trivial, Nat.le_refl _, by decide, heap_alloc_new w _⟩
/-- The row, whichever: it is read, and may be written. -/
structure Out (w : World) (base : Nat) (v : Value) (xs : List Int) : Prop where
  out : ∃ g c, v = .slice (some ⟨g, 0, none⟩) xs.length c ∧ xs.length ≤ c ∧ xs.length ≤ 9223372036854775807 ∧ base ≤ g ∧ g < w.heap.size ∧ ∃ cs fr, w.heap[g]? = some (.cells cs 5 fr) ∧ (∀ j, j < xs.length → cs[j]? = some (.int .u8 (xs.getD j 0))) ∧ (∀ j, j < xs.length → w.frozen? ⟨g, j, none⟩ = false)
theorem out_of {w : World} {base : Nat} {ok : Nat → Prop} {v : Value} {xs : List Int} (h : R (Kd.int .u8) 5 w base ok v xs) (hp : 0 < xs.length) : Out w base v xs := by
  rcases h with h | ⟨hd, g, h1, h2, h3, h4, h5⟩
  · obtain ⟨g, cap, rfl, hg, hlt, cells, hc⟩ := Kd.R_form h hp
    obtain ⟨_, hle, hC⟩ := Kd.R_reads' h
    obtain ⟨_, hmx, hr⟩ := Kd.reads_of_C (d := (0 : Int)) hC
    obtain ⟨ad, ea, hr⟩ := hr hp
    injection ea with ea
    subst ea
    refine ⟨g, cap, rfl, hle, hmx, hg, hlt, cells, (0, 0), hc, fun j hj => ?_, fun j hj => blk_frozen hc j⟩
    have k := hr j hj
    rw [add_plain] at k
    rw [← k]
    exact (blk_cell hc j).symm
  · refine ⟨g, _, h1, Nat.le_refl _, by omega, h3, blk_lt h5, _, _, h5, fun j hj => ?_, fun j hj => ?_⟩
    · simp [nums, List.getD, hj]
    · simp only [World.frozen?, h5]
      simp
      omega
theorem Out.reads {w : World} {base : Nat} {v : Value} {xs : List Int} (h : Out w base v xs) : ∃ A c, v = .slice A xs.length c ∧ xs.length ≤ c ∧ (Kd.int .u8).C w A xs.length xs := by
  obtain ⟨g, c, h1, h2, hmx, h3, h4, cs, fr, h5, h6, h7⟩ := h
  refine ⟨_, c, h1, h2, Kd.C_of_reads (enc := Value.int .u8) (d := (0 : Int)) (h1 := fun _ => rfl) ⟨rfl, hmx, fun hp => ⟨_, rfl, fun j hj => ?_⟩⟩⟩
  rw [add_plain, cell_of_row w g j cs 5 fr h5]
  exact h6 j hj
section
variable {P : Program} {ops : Array Oper} {o : Oper} {a : Act} {Q : Exit → Act → World → Prop} {Kc : Act → World → Prop}
theorem R_append_step (d : Kd Int) {w0 W : World} (base : Nat) (hw : Region.wanted o (yielded ops a.tmps) = true) (s x : Operand) (t e : TypeId) (z : Value) (bytes : Nat)
    (ho : o.op = .call { callee := .builtin .append, args := #[s, x], argTypes := #[t, t] })
    (ht : P.underlying t = some (.slice e)) (hinfo : (P.info? e).map (fun i => (i.zero, i.size, i.bytes)) = some (some z, d.sz, bytes)) (hz : z.cells.size = d.sz) (hs0 : 0 < d.sz) (hb0 : 0 < bytes)
    (v : Value) (xs : List Int) (p : Int) (cs : List Value) (ok okp : Nat → Prop) (hs : a.eval s = v) (hx : a.eval x = .slice (some ⟨W.heap.size, 0, none⟩) 1 1) (hp : d.M W base okp p cs) (hokp : ∀ k, okp k → ok k ∧ some k ≠ v.ownBlock) (hfresh : ∀ k, W.heap.size ≤ k → ok k)
    (HO : R d e W base ok v xs) (HB : Below base w0 W) (hbase : base ≤ W.heap.size) (hl : (xs.length + 1) * bytes ≤ 140737488355328)
    (h : ∀ v1 w1, d.R e w1 base ok v1 (xs ++ [p]) → Below base w0 w1 → W.grownBy w1 v.ownBlock → (v1.ownBlock = v.ownBlock ∨ ∃ b, v1.ownBlock = some b ∧ W.heap.size ≤ b) → Kc (a.put o.dst v1) w1) :
    if Region.wanted o (yielded ops a.tmps) = true then Oper.wp P o a (W.alloc (.cells cs.toArray e)) Kc Q else Kc (a.put o.dst undef) (W.alloc (.cells cs.toArray e)) := by
  rcases HO with HO | ⟨rfl, g, h1, h2, h3, h4, h5⟩
  · exact Kd.R_append_step d base hw s x t e z bytes ho ht hinfo hz hs0 hb0 v xs p cs ok okp hs hx hp hokp hfresh HO HB hbase hl h
  · obtain ⟨i0, hi, hzz⟩ := Option.map_eq_some_iff.1 hinfo
    simp only [Prod.mk.injEq] at hzz
    obtain ⟨hz0, hz1, hz2⟩ := hzz
    have e1 : cs = [.int .u8 p] := hp
    subst e1
    have hlt : g < W.heap.size := blk_lt h5
    have hold : (W.alloc (.cells #[.int .u8 p] e)).heap[g]? = some (.cells (nums .u8 xs).toArray e (xs.length, xs.length + 1)) := blk_alloc h5 _
    obtain ⟨v', w', hr, ho', hg'⟩ := run_append_arg_grows (P := P) (W.alloc (.cells #[.int .u8 p] e)) t o.type e i0 z 1 bytes ht hi hz0 hz1 hz2 hz (by decide) ⟨g, 0, none⟩ xs.length xs.length (nums .u8 xs) (by simp [nums])
      (fun j u hj => by rw [add_plain, cell_of_row _ g j _ e _ hold]; simpa using hj) ⟨W.heap.size, 0, none⟩ 1 1 [.int .u8 p] rfl
      (fun j u hj => by rw [add_plain, cell_of_row _ W.heap.size j _ e (0, 0) (heap_alloc_new W _)]; simpa using hj) (by omega) (by unfold maxLen; omega) hl
    have hgr : W.grownBy w' none := World.grownBy.trans (World.grownBy_alloc W _ _) hg'
    have hB' : Below W.heap.size W w' := ⟨hgr.os, hgr.tape, hgr.output, hgr.size, fun k hk => hgr.block k hk (by simp)⟩
    have hR0 : (Kd.int .u8).R e w' W.heap.size ok v' (xs ++ [p]) := by
      have ho2 : w'.ownsRow W.heap.size e 1 v' (xs ++ [p]).length (encs (Value.int .u8) (xs ++ [p])) := by
        have ho3 : w'.ownsRow (W.alloc (.cells #[.int .u8 p] e)).heap.size e 1 v' (xs ++ [p]).length (encs (Value.int .u8) (xs ++ [p])) := by simpa [nums, encs] using ho'
        exact own_less ho3 (by simp)
      exact Kd.R_of_own ho2 (fun k hk => hfresh k (own_base ho2 k hk))
    have hvb : ∃ b, v'.ownBlock = some b ∧ W.heap.size ≤ b := by
      obtain ⟨g', cap, rfl, hg2, _⟩ := Kd.R_form hR0 (by simp)
      exact ⟨g', by simp [Value.ownBlock], hg2⟩
    rw [if_pos hw]
    unfold Oper.wp execOp
    simp only [ho, resolve, invoke, builtin, Sem.run_bind, Sem.run_pure, Result.andThen_ok, List.map_toArray, List.map_cons, List.map_nil, hs, hx, h1, hr]
    refine h v' w' (Kd.R_lower hR0 hbase) ?_ ?_ (.inr hvb)
    · exact HB.trans ⟨hB'.os, hB'.tape, hB'.output, hB'.size, fun k hk => hB'.block k (Nat.lt_of_lt_of_le hk hbase)⟩
    · exact ⟨hgr.os, hgr.tape, hgr.output, hgr.size, fun k hk _ => hgr.block k hk (by simp)⟩
end
end Go.Proofs.YtibeoejnfpbcfaaDoor.Mk
