import Derived.Test.YtbelijoggbblgaaSp10
namespace Go.Proofs.Ytbelijoggbblgaa.Sp
open Go.RowKit Go.Proofs.YtbelijoggbblgaaW.PrintWords Go.Proofs.YtbelijoggbblgaaW.PrintLast Go.Proofs.YtbelijoggbblgaaW.PrintMore Go.Proofs.Ytbelijoggbblgaa.PStorePlays Go.Proofs.Ytbelijoggbblgaa.St
set_option linter.unusedVariables false
set_option linter.unusedSimpArgs false
section
variable {w w1 : World} {base s : Nat} {tag tag1 : Nat → Nat} {F F1 : List S32} {L : List (List Int × Int)} {N : List (Nat × Int)} {G G1 : List S41} {vF vT vM vG vF' vT' vM' vG' : Value} {T M T1 M1 : List (List Value)}
theorem snoc_cases {α : Type} {l : List α} {x y : α} {i : Nat} (h : (l ++ [x])[i]? = some y) : l[i]? = some y ∨ (i = l.length ∧ y = x) := by
  rw [List.getElem?_append] at h
  split at h
  · exact .inl h
  · rename_i hge
    have hi0 : i - l.length = 0 := by
      rcases Nat.eq_zero_or_pos (i - l.length) with h0 | h0
      · exact h0
      · rw [List.getElem?_eq_none (by simp; omega)] at h; cases h
    rw [hi0] at h
    exact .inr ⟨by omega, (Option.some.inj h).symm⟩
theorem Only.imp {S S' : Nat → Prop} (h : Only w w1 S) (hs : ∀ k, k < w.heap.size → S k → S' k) : Only w w1 S' := ⟨h.os, h.tape, h.output, h.size, fun k hk hn => h.block k hk (fun hS => hn (hs k hk hS))⟩
/-- The blocks with a tag, of a world that was. -/
theorem Sh.was (h : Sh w base s tag F L N G vF vT vM vG T M) : St w base s (fun k => tag k = 1 ∧ k < w.heap.size) vF vT vM vG F T M G := h.st.monoB (fun k a b c => ⟨a, c⟩)
theorem Sh.rest_ta (h : Sh w base s tag F L N G vF vT vM vG T M) (hO : Only w w1 (fun k => k = s ∨ (base ≤ k ∧ tag k = 1))) (ht : ∀ k, k < w.heap.size → tag1 k = tag k) (i : Nat) (p : List Int × Int) (hp : L[i]? = some p) : ∃ v, T[i]? = some [v, .int .i64 p.2] ∧ Lf w1 base tag1 (3 + 2 * i) v p.1 := by
  obtain ⟨v, e, hl⟩ := h.ta i p hp
  exact ⟨v, e, hl.step (fun k a b c => ⟨hO.block k c (by rintro (rfl | ⟨_, hk⟩); have := h.st.lo; omega; omega), ht k c⟩)⟩
theorem Sh.rest_me (h : Sh w base s tag F L N G vF vT vM vG T M) (hO : Only w w1 (fun k => k = s ∨ (base ≤ k ∧ tag k = 1))) (ht : ∀ k, k < w.heap.size → tag1 k = tag k) (i : Nat) (p : Nat × Int) (hp : N[i]? = some p) : ∃ v, M[i]? = some v ∧ Me w1 base tag1 144 v p.1 p.2 := by
  obtain ⟨v, e, hl⟩ := h.me i p hp
  exact ⟨v, e, hl.step hO.size (fun k a b c => ⟨hO.block k c (by rintro (rfl | ⟨_, hk⟩); have := h.st.lo; omega; omega), ht k c⟩)⟩
theorem sonly (hO : Only w w1 (fun k => k = s ∨ (base ≤ k ∧ tag k = 1))) : SOnly w w1 base s tag := Only.imp hO (fun k _ hk => hk.imp id (fun ⟨a, b⟩ => ⟨a, 0, b⟩))
/-- A row of the store's own: where its block is. -/
theorem own_in {α : Type} {d : Kd α} {e n c : Nat} {A : Option Addr} {xs : List α} (h : d.R e w base (fun k => tag k = 1 ∧ k < w.heap.size) (.slice A n c) xs) (k : Nat) (hk : blk A = some k) : base ≤ k ∧ tag k = 1 :=
  ⟨Kd.R_base h k (by rw [ownBlock_slice]; exact hk), (h.1 k (by rw [ownBlock_slice]; exact hk)).1⟩
/-- The new blocks have the tag 1, but for those of P. -/
def ext (w : World) (tag : Nat → Nat) (P : Nat → Prop) [DecidablePred P] (t : Nat) : Nat → Nat := fun k => if k < w.heap.size then tag k else if P k then t else 1
theorem ext_old (w : World) (tag : Nat → Nat) (P : Nat → Prop) [DecidablePred P] (t : Nat) : ∀ k, k < w.heap.size → ext w tag P t k = tag k := fun k hk => if_pos hk
theorem ext_one (w : World) (tag : Nat → Nat) (P : Nat → Prop) [DecidablePred P] (t k : Nat) (h : (tag k = 1 ∧ k < w.heap.size) ∨ (w.heap.size ≤ k ∧ ¬ P k)) : ext w tag P t k = 1 := by
  unfold ext
  rcases h with ⟨a, b⟩ | ⟨a, b⟩
  · rw [if_pos b]; exact a
  · rw [if_neg (by omega), if_neg b]
theorem ext_new (w : World) (tag : Nat → Nat) (P : Nat → Prop) [DecidablePred P] (t k : Nat) (h : w.heap.size ≤ k) (hP : P k) : ext w tag P t k = t := by
  unfold ext; rw [if_neg (by omega), if_pos hP]
def SDone (w w' : World) (base s : Nat) (tag : Nat → Nat) (F : List S32) (L : List (List Int × Int)) (N : List (Nat × Int)) (G : List S41) : Prop :=
  (∃ tag1 vF vT vM vG T M, (∀ k, k < w.heap.size → tag1 k = tag k) ∧ Sh w' base s tag1 F L N G vF vT vM vG T M) ∧ SOnly w w' base s tag
theorem sh_addFunc (h : Sh w base s tag F L N G vF vT vM vG T M) (hb : base ≤ w.heap.size) (hn : F.length ≤ 100)
    {A B : Option Addr} {c d : Nat} {xs ys : List Int} (hx : I64.C w A xs.length xs) (hc : xs.length ≤ c) (kx : xs.length * 8 ≤ 140737488351232) (hy : I64.C w B ys.length ys) (hd : ys.length ≤ d) (ky : ys.length * 8 ≤ 140737488351232) (inst fn ans : Int) :
    Calls Try.prog 8 #[.pointer (some ⟨s, 0, none⟩), .agg #[.slice A xs.length c, .slice B ys.length d, .int .i64 inst, .int .i64 fn, .int .u64 ans]] w fun e w' => e = .returned (.int .i64 F.length) ∧ SDone w w' base s tag (F ++ [⟨⟨xs, ys⟩, inst, fn, ans⟩]) L N G := by
  obtain ⟨AF, cF, rfl⟩ := Kd.R_slice h.st.f
  refine (addFunc_calls h.was hb hn hx hc kx hy hd ky inst fn ans).mono ?_
  rintro e w' ⟨rfl, AF', cF', hS, hO⟩
  have hO1 : Only w w' (fun k => k = s ∨ (base ≤ k ∧ tag k = 1)) := Only.imp hO (fun k _ hk => hk.imp id (fun q => own_in h.was.f k q))
  have e0 := ext_old w tag (fun _ => False) 0
  exact ⟨rfl, ⟨_, _, _, _, _, _, _, e0, ⟨hS.mono (fun k hk => ext_one w tag (fun _ => False) 0 k (hk.imp id (fun a => ⟨a, id⟩))), h.tl, h.ml, h.rest_ta hO1 e0, h.rest_me hO1 e0, h.lb, h.nb⟩⟩, sonly hO1⟩
theorem sh_addGlobal (h : Sh w base s tag F L N G vF vT vM vG T M) (hb : base ≤ w.heap.size) (hn : G.length ≤ 100) (ty : Int) (mu : Bool) (v : Int) :
    Calls Try.prog 11 #[.pointer (some ⟨s, 0, none⟩), .agg #[.int .i64 ty, .bool mu, .int .u64 v]] w fun e w' => e = .returned (.int .i64 G.length) ∧ SDone w w' base s tag F L N (G ++ [⟨ty, mu, v⟩]) := by
  obtain ⟨AG, cG, rfl⟩ := Kd.R_slice h.st.g
  refine (addGlobal_calls h.was hb hn ty mu v).mono ?_
  rintro e w' ⟨rfl, AF', cF', hS, hO⟩
  have hO1 : Only w w' (fun k => k = s ∨ (base ≤ k ∧ tag k = 1)) := Only.imp hO (fun k _ hk => hk.imp id (fun q => own_in h.was.g k q))
  have e0 := ext_old w tag (fun _ => False) 0
  exact ⟨rfl, ⟨_, _, _, _, _, _, _, e0, ⟨hS.mono (fun k hk => ext_one w tag (fun _ => False) 0 k (hk.imp id (fun a => ⟨a, id⟩))), h.tl, h.ml, h.rest_ta hO1 e0, h.rest_me hO1 e0, h.lb, h.nb⟩⟩, sonly hO1⟩
theorem sh_addTable (h : Sh w base s tag F L N G vF vT vM vG T M) (hb : base ≤ w.heap.size) (hn : L.length ≤ 100) (lo : Nat) (hi : Int) (has : Bool) (hk : tabOk lo hi has) :
    Calls Try.prog 9 #[.pointer (some ⟨s, 0, none⟩), .agg #[.int .i64 lo, .int .i64 hi, .bool has]] w fun e w' => e = .returned (.tuple #[.int .i64 L.length, .nilIface]) ∧ SDone w w' base s tag F (L ++ [(List.replicate lo (-1), if has = true then hi else -1)]) N G := by
  obtain ⟨AT, cT, rfl⟩ := Kd.R_slice h.st.t
  refine (addTable_yes h.was hb (by rw [h.tl]; exact hn) lo hi has hk).mono ?_
  rintro e w' ⟨rfl, AF', cF', A, c, hS, hL, hO⟩
  have hO1 : Only w w' (fun k => k = s ∨ (base ≤ k ∧ tag k = 1)) := Only.imp hO (fun k _ hk => hk.imp id (fun q => own_in h.was.t k q))
  have e0 := ext_old w tag (fun k => blk A = some k) (3 + 2 * L.length)
  refine ⟨by rw [h.tl], ⟨ext w tag (fun k => blk A = some k) (3 + 2 * L.length), _, _, _, _, _, _, e0, ⟨hS.mono (fun k hk => ext_one w tag _ _ k hk), by rw [List.length_append, List.length_append, h.tl]; rfl, h.ml, fun i p hp => ?_, h.rest_me hO1 e0, fun i p hp => (by
    rcases snoc_cases hp with h1 | ⟨_, rfl⟩
    · exact h.lb i p h1
    · have := hk.2.1
      simp only [List.length_replicate]
      omega), h.nb⟩⟩, sonly hO1⟩
  rw [List.getElem?_append] at hp
  split at hp
  · rename_i hlt
    obtain ⟨v, e1, e2⟩ := h.rest_ta hO1 e0 i p hp
    exact ⟨v, by rw [List.getElem?_append_left (by rw [h.tl]; exact hlt)]; exact e1, e2⟩
  · rename_i hge
    have hi0 : i - L.length = 0 := by
      rcases Nat.eq_zero_or_pos (i - L.length) with h0 | h0
      · exact h0
      · rw [List.getElem?_eq_none (by simp; omega)] at hp; cases hp
    rw [hi0] at hp
    have hp2 := Option.some.inj hp
    subst hp2
    obtain rfl : i = L.length := by omega
    refine ⟨.slice A lo c, by rw [← h.tl, List.getElem?_append_right (Nat.le_refl _), Nat.sub_self]; rfl, ?_⟩
    refine ⟨fun k hk => ext_new w tag _ _ k (Kd.R_base hL k hk) (by rw [ownBlock_slice] at hk; exact hk), ?_⟩
    exact (Kd.R_lower (R_monoB hL (ok' := fun k => blk A = some k ∨ True) (fun _ _ _ _ => .inr trivial)) hb).2.imp_ (fun _ _ hp => hp)
theorem sh_addMem (h : Sh w base s tag F L N G vF vT vM vG T M) (hb : base ≤ w.heap.size) (hn : N.length ≤ 100) (lo hi : Int) (has : Bool) (hm : may lo hi has) :
    Calls Try.prog 46 #[.pointer (some ⟨s, 0, none⟩), .agg #[.int .i64 lo, .int .i64 hi, .bool has]] w fun e w' => e = .returned (.tuple #[.int .i64 N.length, .nilIface]) ∧ SDone w w' base s tag F L (N ++ [((lo * 256).toNat, if has = true then hi else 16)]) G := by
  obtain ⟨AM, cM, rfl⟩ := Kd.R_slice h.st.m
  refine (addMem_yes h.was hb (by rw [h.ml]; exact hn) lo hi has hm).mono ?_
  rintro e w' ⟨rfl, AF', cF', g, A, c, hS, hM, hO⟩
  have hO1 : Only w w' (fun k => k = s ∨ (base ≤ k ∧ tag k = 1)) := Only.imp hO (fun k _ hk => hk.imp id (fun q => own_in h.was.m k q))
  have e0 := ext_old w tag (fun k => k = g ∨ blk A = some k) 0
  refine ⟨by rw [h.ml], ⟨ext w tag (fun k => k = g ∨ blk A = some k) 0, _, _, _, _, _, _, e0, ⟨hS.mono (fun k hk => ext_one w tag _ _ k (hk.imp id (fun a => ⟨a.1, fun q => q.elim a.2.1 a.2.2⟩))), h.tl, by rw [List.length_append, List.length_append, h.ml]; rfl, h.rest_ta hO1 e0, fun i p hp => ?_, h.lb, fun i p hp => (by
    rcases snoc_cases hp with h1 | ⟨_, rfl⟩
    · exact h.nb i p h1
    · have := hm.2.1
      simp only
      omega)⟩⟩, sonly hO1⟩
  rw [List.getElem?_append] at hp
  split at hp
  · rename_i hlt
    obtain ⟨v, e1, e2⟩ := h.rest_me hO1 e0 i p hp
    exact ⟨v, by rw [List.getElem?_append_left (by rw [h.ml]; exact hlt)]; exact e1, e2⟩
  · rename_i hge
    have hi0 : i - N.length = 0 := by
      rcases Nat.eq_zero_or_pos (i - N.length) with h0 | h0
      · exact h0
      · rw [List.getElem?_eq_none (by simp; omega)] at hp; cases hp
    rw [hi0] at hp
    have hp2 := Option.some.inj hp
    subst hp2
    obtain rfl : i = N.length := by omega
    refine ⟨[.pointer (some ⟨g, 0, none⟩)], by rw [← h.ml, List.getElem?_append_right (Nat.le_refl _), Nat.sub_self]; rfl, g, A, c, rfl, hM.mono hb, ext_new w tag _ _ g hM.lo (.inl rfl), fun k hk => ext_new w tag _ _ k (hM.own.lt k (by rw [ownBlock_slice]; exact hk)).1 (.inr hk)⟩
theorem sh_setGlobal (h : Sh w base s tag F L N G vF vT vM vG T M) (n : Nat) (hn : n < G.length) (x : S41) (hx : G[n]? = some x) (v : Int) :
    Calls Try.prog 36 #[.pointer (some ⟨s, 0, none⟩), .int .i64 n, .int .u64 v] w fun e w' => e = .returned (.bool true) ∧ SDone w w' base s tag F L N (G.set n ⟨x.f0, x.f1, v⟩) := by
  obtain ⟨AG, cG, rfl⟩ := Kd.R_slice h.st.g
  refine (setGlobal_in h.was n hn x hx v).mono ?_
  rintro e w' ⟨rfl, hS, hO⟩
  have hO1 : Only w w' (fun k => k = s ∨ (base ≤ k ∧ tag k = 1)) := Only.imp hO (fun k _ hk => .inr (own_in h.was.g k (by rw [ownBlock_slice] at hk; exact hk)))
  exact ⟨rfl, ⟨tag, _, _, _, _, _, _, fun _ _ => rfl, ⟨hS.mono (fun k hk => hk.1), h.tl, h.ml, h.rest_ta hO1 (fun _ _ => rfl), h.rest_me hO1 (fun _ _ => rfl), h.lb, h.nb⟩⟩, sonly hO1⟩
theorem sh_setTable (h : Sh w base s tag F L N G vF vT vM vG T M) (n : Nat) (hn : n < L.length) (p : List Int × Int) (hp : L[n]? = some p) (i : Nat) (hi : i < p.1.length) (f : Int) :
    Calls Try.prog 35 #[.pointer (some ⟨s, 0, none⟩), .int .i64 n, .int .i64 i, .int .i64 f] w fun e w' => e = .returned (.bool true) ∧ SDone w w' base s tag F (L.set n (p.1.set i f, p.2)) N G := by
  obtain ⟨v, e, hl⟩ := h.ta n p hp
  obtain ⟨A, c, rfl⟩ := Kd.R_slice hl
  cases A with
  | none =>
    obtain ⟨A2, c2, e8, _, hC⟩ := Kd.R_reads hl
    obtain ⟨ad, e9, _⟩ := hC.2.2 (by omega)
    injection e8 with e8
    rw [← e8] at e9; cases e9
  | some ad =>
    obtain ⟨b, rfl, hz⟩ := R_some hl
    refine (setTable_in h.st n (by rw [h.tl]; exact hn) e hl i hi f).mono ?_
    rintro e w' ⟨rfl, nd, rfl⟩
    have hbt : tag b = 3 + 2 * n := hl.1 b rfl
    have hbb : base ≤ b := Kd.R_base hl b rfl
    have hO : Only w ((w.drewN nd).setCell ⟨b, i, none⟩ (.int .i64 f)) (fun k => k = b) := Only.set (S := fun k => k = b) ((Only.refl w _).drewN nd) (.inl rfl) _
    have hsb := h.st.lo
    refine ⟨rfl, ⟨tag, _, _, _, _, _, _, fun _ _ => rfl, ⟨h.st.step (fun k hk hlt => hO.block k hlt (by rintro rfl; rcases hk with ⟨a, _⟩ | rfl <;> omega)), by rw [List.length_set]; exact h.tl, h.ml, fun j q hq => ?_, fun j q hq => ?_, fun j q hq => (by
      rw [List.getElem?_set] at hq
      split at hq
      · have hq2 := Option.some.inj hq
        subst hq2
        simp only [List.length_set]
        exact h.lb n p hp
      · exact h.lb j q hq), h.nb⟩⟩, Only.imp hO (fun k _ hk => .inr ⟨by rw [hk]; exact hbb, 1 + n, by rw [hk, hbt]; omega⟩)⟩
    · rw [List.getElem?_set] at hq
      split at hq
      · rename_i hj
        subst hj
        have hq2 := Option.some.inj hq
        subst hq2
        refine ⟨_, e, ?_⟩
        have hp2 := (Kd.R_put (W := w.drewN nd) (Kd.R_drewN hl nd) i f).1
        rw [Int.toNat_natCast] at hp2
        show Lf _ _ _ _ (.slice (some ⟨b, 0, none⟩) p.1.length c) (p.1.set i f)
        exact hp2
      · rename_i hj
        obtain ⟨v, e1, e2⟩ := h.ta j q hq
        exact ⟨v, e1, e2.step (fun k a b' c' => ⟨hO.block k c' (by rintro rfl; omega), rfl⟩)⟩
    · obtain ⟨v, e1, e2⟩ := h.me j q hq
      exact ⟨v, e1, e2.step hO.size (fun k a b' c' => ⟨hO.block k c' (by rintro rfl; omega), rfl⟩)⟩
theorem sh_setTable_no (h : Sh w base s tag F L N G vF vT vM vG T M) (n at_ f : Int) (hn : ¬ (0 ≤ n ∧ n < L.length ∧ 0 ≤ at_ ∧ ∀ p, L[n.toNat]? = some p → at_ < p.1.length)) :
    Calls Try.prog 35 #[.pointer (some ⟨s, 0, none⟩), .int .i64 n, .int .i64 at_, .int .i64 f] w fun e w' => e = .returned (.bool false) ∧ Drawn0 w w' := by
  by_cases h0 : 0 ≤ n ∧ n < L.length
  · obtain ⟨k, rfl⟩ := Int.eq_ofNat_of_zero_le h0.1
    have hk : k < L.length := by omega
    obtain ⟨v, e, hl⟩ := h.ta k _ (List.getElem?_eq_getElem hk)
    obtain ⟨A, c, rfl, hc, hC⟩ := Kd.R_reads hl
    refine setTable_out h.st k (by rw [h.tl]; exact hk) e hc hC at_ f (fun ha => hn ⟨h0.1, h0.2, ha.1, fun p hp => ?_⟩)
    rw [Int.toNat_natCast, List.getElem?_eq_getElem hk] at hp
    rw [← Option.some.inj hp]; exact ha.2
  · exact setTable_no h.st n (by rw [h.tl]; exact h0) at_ f
end
end Go.Proofs.Ytbelijoggbblgaa.Sp
