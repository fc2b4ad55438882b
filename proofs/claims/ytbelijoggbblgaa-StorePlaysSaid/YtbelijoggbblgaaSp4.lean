import Derived.Test.YtbelijoggbblgaaSp3
namespace Go.Proofs.Ytbelijoggbblgaa.Sp
open Go.RowKit Go.Proofs.YtbelijoggbblgaaW.PrintWords Go.Proofs.YtbelijoggbblgaaW.PrintLast Go.Proofs.YtbelijoggbblgaaW.PrintMore Go.Proofs.Ytbelijoggbblgaa.PStorePlays Go.Proofs.Ytbelijoggbblgaa.St
set_option linter.unusedVariables false
set_option linter.unusedSimpArgs false
theorem cut_set (l : List Value) (sz j i k : Nat) (u : Value) (hi : i < sz) : ((l.set (j * sz + i) u).drop (k * sz)).take sz = if k = j then (((l.drop (k * sz)).take sz).set i u) else ((l.drop (k * sz)).take sz) := by
  rw [List.drop_set]
  by_cases h : k = j
  · subst h
    rw [if_pos rfl, if_neg (by omega), List.take_set]
    congr 1
    omega
  · rw [if_neg h]
    rcases Nat.lt_or_gt_of_ne h with h1 | h1
    · have h2 : (k + 1) * sz ≤ j * sz := Nat.mul_le_mul_right _ h1
      rw [Nat.add_mul, Nat.one_mul] at h2
      rw [if_neg (by omega), List.take_set]
      rw [List.set_eq_of_length_le]
      have := List.length_take_le sz (l.drop (k * sz))
      omega
    · have h2 : (j + 1) * sz ≤ k * sz := Nat.mul_le_mul_right _ h1
      rw [Nat.add_mul, Nat.one_mul] at h2
      rw [if_pos (by omega)]
/-- A cell of an element of a row is written. -/
theorem R_poke {α : Type} {d : Kd α} {e : Nat} {w : World} {base g cap : Nat} {ok : Nat → Prop} {xs : List α} (h : d.R e w base ok (.slice (some ⟨g, 0, none⟩) xs.length cap) xs) (j i : Nat) (hi : i < d.sz) (u : Value) (x' : α)
    (hmv : ∀ W o x cs, d.M w base o x cs → d.M W base o x cs) (hM : ∀ W o x cs, xs[j]? = some x → d.M w base o x cs → d.M W base o x' (cs.set i u)) :
    d.R e (w.setCell ⟨g, j * d.sz + i, none⟩ u) base ok (.slice (some ⟨g, 0, none⟩) xs.length cap) (xs.set j x') ∧ w.grownBy (w.setCell ⟨g, j * d.sz + i, none⟩ u) (some g) := by
  obtain ⟨h0, inner, ho, hl, hr⟩ := h
  have hs := ho.stored (j * d.sz + i) u
  refine ⟨⟨h0, inner.set (j * d.sz + i) u, by rw [List.length_set]; exact hs.1, by rw [List.length_set, List.length_set]; exact hl, ?_⟩, hs.2⟩
  intro k p hk
  rw [cut_set inner d.sz j i k u hi]
  by_cases hkj : k = j
  · subst hkj
    rw [if_pos rfl]
    rw [List.getElem?_set] at hk
    rw [if_pos rfl] at hk
    by_cases hlt : k < xs.length
    · rw [if_pos hlt] at hk
      obtain rfl := Option.some.inj hk
      exact hM _ _ xs[k] _ (List.getElem?_eq_getElem hlt) (hr k _ (List.getElem?_eq_getElem hlt))
    · rw [if_neg hlt] at hk; cases hk
  · rw [if_neg hkj]
    rw [List.getElem?_set, if_neg (fun e => hkj e.symm)] at hk
    exact hmv _ _ _ _ (hr k p hk)
theorem raw_cells {m : Nat} {w : World} {A : Option Addr} {n : Nat} {xs : List (List Value)} (h : (raw m).C w A n xs) (i : Nat) (hi : i < n) (x : List Value) (hx : xs[i]? = some x) : ∃ ad, A = some ad ∧ ∀ j u, x[j]? = some u → w.cell? (ad.add (i * m + j)) = some u := by
  obtain ⟨ad, c, e, hl, hK, hc⟩ := Kd.C_get h [] i (by omega) (by omega)
  rw [Int.toNat_natCast] at hK hc
  have hd : xs.getD i [] = x := by rw [List.getD_eq_getElem?_getD, hx]; rfl
  rw [hd] at hK
  obtain ⟨rfl, _, _⟩ := hK
  exact ⟨ad, e, hc⟩
theorem raw2_at {w : World} {A : Option Addr} {n : Nat} {xs : List (List Value)} (h : (raw 2).C w A n xs) (i : Nat) (hi : i < n) (u v : Value) (hx : xs[i]? = some [u, v]) : ∃ ad, A = some ad ∧ w.cell? (ad.add (i * 2)) = some u ∧ w.cell? ⟨(ad.add (i * 2)).block, (ad.add (i * 2)).off + 1, none⟩ = some v := by
  obtain ⟨ad, e, hc⟩ := raw_cells h i hi _ hx
  exact ⟨ad, e, hc 0 _ rfl, by rw [← add_field _ _ 1 (by omega)]; exact hc 1 _ rfl⟩
theorem raw1_at {w : World} {A : Option Addr} {n : Nat} {xs : List (List Value)} (h : (raw 1).C w A n xs) (i : Nat) (hi : i < n) (u : Value) (hx : xs[i]? = some [u]) : ∃ ad, A = some ad ∧ w.cell? (ad.add i) = some u := by
  obtain ⟨ad, e, hc⟩ := raw_cells h i hi _ hx
  exact ⟨ad, e, by have := hc 0 _ rfl; rwa [Nat.mul_one] at this⟩
theorem raw_M_mv (m : Nat) {w : World} {base : Nat} : ∀ W o x cs, (raw m).M w base o x cs → (raw m).M W base o x cs := fun _ _ _ _ h => h
theorem k41_M_mv {w : World} {base : Nat} : ∀ W o x cs, k41.M w base o x cs → k41.M W base o x cs := fun W o x cs h => by rw [k41_openM h]; exact k41_mkM _ _ _ _
/-- The block of a row that is not empty. -/
theorem R_some {α : Type} {d : Kd α} {e : Nat} {w : World} {base : Nat} {ok : Nat → Prop} {ad : Addr} {n c : Nat} {xs : List α} (h : d.R e w base ok (.slice (some ad) n c) xs) : ∃ g, ad = ⟨g, 0, none⟩ ∧ ∀ j, w.frozen? ⟨g, j, none⟩ = false := by
  obtain ⟨inner, ho⟩ := Kd.R_own h
  rcases ho.2 with ⟨e1, _⟩ | ⟨g, cap, cur, e1, _, hh, _⟩
  · cases e1
  · simp only [Value.slice.injEq, Option.some.injEq] at e1
    exact ⟨g, e1.1, fun j => frozen_of_row w g j cur _ hh⟩
theorem Row.drewN {w : World} {g : Nat} {t : TypeId} {cs : Array Value} (h : Row w g t cs) (n : Nat) : Row (w.drewN n) g t cs := h
theorem C_drewN {α : Type} {d : Kd α} {w : World} {A : Option Addr} {n : Nat} {xs : List α} (h : d.C w A n xs) (k : Nat) : d.C (w.drewN k) A n xs := Kd.C_below h (pw_below_drewN (Below.refl _ _) k)
end Go.Proofs.Ytbelijoggbblgaa.Sp
