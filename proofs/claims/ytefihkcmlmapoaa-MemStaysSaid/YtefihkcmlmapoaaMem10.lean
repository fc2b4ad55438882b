import Derived.Test.YtefihkcmlmapoaaMem9
import Derived.WalkSpells
import Derived.Outline
import Derived.Laws.BytesArg
namespace Go.Proofs.Ytefihkcmlmapoaa.Mem
open Go.RowKit Go.Proofs.YtefihkcmlmapoaaW.PrintWords Go.Proofs.YtefihkcmlmapoaaW.PrintLast Go.Proofs.YtefihkcmlmapoaaW.PrintMore Go.Proofs.Ytefihkcmlmapoaa.PMemHalves
set_option linter.unusedVariables false
set_option linter.unusedSimpArgs false
theorem info5 : (Try.prog.info? 5).map (fun i => (i.zero, i.size, i.bytes)) = some (some (.int .u8 0), 1, 1) := by kernel_rfl
/-- A slice of bytes that the call owns: what it reads as. -/
structure Bs (w : World) (base : Nat) (A : Option Addr) (n c : Nat) (xs : List Int) : Prop where
  len : xs.length = n
  own : w.ownsRow base 5 1 (.slice A n c) n (xs.map (Value.int .u8))
theorem Bs.drewN {w : World} {base : Nat} {A : Option Addr} {n c : Nat} {xs : List Int} (h : Bs w base A n c xs) (k : Nat) : Bs (w.drewN k) base A n c xs := ⟨h.len, h.own⟩
theorem Bs.kept {w w' : World} {base : Nat} {A : Option Addr} {n c : Nat} {xs : List Int} (h : Bs w base A n c xs) {row : Option Nat} (hg : w.grownBy w' row) (h2 : blk A = none ∨ blk A ≠ row) : Bs w' base A n c xs :=
  ⟨h.len, h.own.kept hg (by rw [ownBlock_slice]; exact h2)⟩
theorem Bs.alloc {w : World} {base : Nat} {A : Option Addr} {n c : Nat} {xs : List Int} (h : Bs w base A n c xs) (o : Obj) : Bs (w.alloc o) base A n c xs := ⟨h.len, h.own.alloc o⟩
theorem Bs.cases {w : World} {base : Nat} {A : Option Addr} {n c : Nat} {xs : List Int} (h : Bs w base A n c xs) : (A = none ∧ n = 0 ∧ c = 0 ∧ xs = []) ∨ ∃ b, A = some ⟨b, 0, none⟩ ∧ base ≤ b ∧ b < w.heap.size := by
  rcases h.own.2 with ⟨hv, h0⟩ | ⟨b, cap, cur, hv, hb, hh, _⟩
  · simp only [Value.slice.injEq] at hv
    exact .inl ⟨hv.1, h0, hv.2.2, List.eq_nil_of_length_eq_zero (by rw [h.len]; exact h0)⟩
  · simp only [Value.slice.injEq] at hv
    exact .inr ⟨b, hv.1, hb, (Array.getElem?_eq_some_iff.1 hh).1⟩
theorem Bs.mono {w : World} {base base' : Nat} {A : Option Addr} {n c : Nat} {xs : List Int} (h : Bs w base A n c xs) (hb : base' ≤ base) : Bs w base' A n c xs := by
  refine ⟨h.len, h.own.1, ?_⟩
  rcases h.own.2 with h2 | ⟨b, cap, cur, hv, hB, r⟩
  · exact .inl h2
  · exact .inr ⟨b, cap, cur, hv, Nat.le_trans hb hB, r⟩
theorem Bs.news {w : World} {base b n c : Nat} {xs : List Int} (h : Bs w base (some ⟨b, 0, none⟩) n c xs) : ∀ j u, (xs.map (Value.int .u8))[j]? = some u → w.cell? ((⟨b, 0, none⟩ : Addr).add j) = some u := h.own.cells (g := b) rfl
theorem Bs.cell {w : World} {base b n c : Nat} {xs : List Int} (h : Bs w base (some ⟨b, 0, none⟩) n c xs) (i : Nat) (hi : i < n) : w.cell? ⟨b, i, none⟩ = some (.int .u8 (xs.getD i 0)) := by
  rw [h.own.cellAt i (by omega)]
  have := h.len
  simp [List.getD, show i < xs.length by omega]
theorem Bs.of {w : World} {base n : Nat} {v : Value} {xs : List Int} (hl : xs.length = n) (h : w.ownsRow base 5 1 v n (xs.map (Value.int .u8))) : ∃ A c, v = .slice A n c ∧ Bs w base A n c xs := by
  have h2 := h.2
  rcases h2 with ⟨hv, h0⟩ | ⟨b, cap, cur, hv, hb, hh, _⟩
  · subst hv; subst h0; exact ⟨none, 0, rfl, hl, h⟩
  · subst hv; exact ⟨_, _, rfl, hl, h⟩
theorem Mm.bs {w : World} {base : Nat} {ty : TypeId} {g : Nat} {A : Option Addr} {n c : Nat} {xs : List Int} {most : Int} (h : Mm w base ty g A n c xs most) : Bs w base A n c xs := ⟨h.len, h.own⟩
theorem one_bytes (xs : List Int) : ∀ u ∈ xs.map (Value.int .u8), u.oneCell' = true := ints_oneCell .u8 xs
set_option maxHeartbeats 1000000 in
theorem clone_any {w : World} {base n c : Nat} {A : Option Addr} {xs : List Int} (h : Bs w base A n c xs) (hn : n ≤ 65536) :
    Calls Try.prog 23 #[.slice A n c] w fun e w' => ∃ A' c', e = .returned (.slice A' n c') ∧ Bs w' w.heap.size A' n c' xs ∧ Below w.heap.size w w' := by
  have hnil := @Lib.run_eql_slice_nil Try.prog
  rcases h.cases with ⟨rfl, rfl, rfl, rfl⟩ | ⟨b, rfl, hb, hbl⟩
  · clear h
    go_enter Try.func23, Try.ntmps23
    go_wp2
    go_ret
    exact ⟨none, 0, rfl, ⟨rfl, World.ownsRow_nil _ _ _ _⟩, Below.refl _ _⟩
  · obtain ⟨i0, hi, hz0, hz1, hz2⟩ := info_parts info5
    have hl := h.len
    have H := Aside0.mk h
    have HL := Aside0.mk hl
    clear h hl
    go_enter Try.func23, Try.ntmps23
    go_wp2_with (at_builtin; refine wpList_append_own _ rfl (.tmp 5) (.tmp 6) 40 rfl w.heap.size 5 i0 (.int .u8 0) 1 1 Try.underlying40 hi hz0 hz1 hz2 rfl (by decide) _ 0 [] rfl (World.ownsRow_made w #[] 0 (Nat.le_refl _) (by decide) rfl) ⟨b, 0, none⟩ n c (xs.map (Value.int .u8)) rfl ?c1 ?c2 (one_bytes xs) ?c3 ?c4 ?c5 ?_)
    case c1 => rw [List.length_map, HL.out, Nat.mul_one]
    case c2 => exact (H.out.alloc _).news
    case c3 => unfold maxLen; omega
    case c4 => omega
    case c5 => simp
    intro v' w1 hown hgrow _
    obtain ⟨A', c', rfl, hBs⟩ := Bs.of HL.out hown
    have hB : Below w.heap.size w w1 := (below_alloc (Below.refl w.heap.size w) (.cells #[] 5)).grown hgrow (by simp) (by intro k hk; simp [Value.ownBlock] at hk; omega)
    clear hown hgrow
    go_wp2
    go_ret
    exact ⟨A', c', rfl, hBs, hB⟩
end Go.Proofs.Ytefihkcmlmapoaa.Mem
