import Derived.Test.YtbelijoggbblgaaSp23
namespace Go.Proofs.Ytbelijoggbblgaa.Sp
open Go.RowKit Go.Proofs.YtbelijoggbblgaaW.PrintWords Go.Proofs.YtbelijoggbblgaaW.PrintLast Go.Proofs.YtbelijoggbblgaaW.PrintMore Go.Proofs.Ytbelijoggbblgaa.PStorePlays Go.Proofs.Ytbelijoggbblgaa.St
set_option linter.unusedVariables false
set_option linter.unusedSimpArgs false
theorem ints_l0 (xs : List Int) (hx : xs.length ≤ 1000) : ∀ (d : Nat) (i : Nat), xs.length - i = d → i ≤ xs.length → ∀ k, d < k → grommetref05_Ints.l0 k xs xs (i : Int) = some true
  | 0, i, hd, hi, k, hk => by
    obtain ⟨k, rfl⟩ : ∃ m, k = m + 1 := ⟨k - 1, by omega⟩
    rw [grommetref05_Ints.l0]
    rw [if_neg (by omega)]
  | d + 1, i, hd, hi, k, hk => by
    obtain ⟨k, rfl⟩ : ∃ m, k = m + 1 := ⟨k - 1, by omega⟩
    rw [grommetref05_Ints.l0]
    rw [if_pos (show (i : Int) < (xs.length : Int) by omega), if_pos (show (0 : Int) ≤ (i : Int) by omega), if_pos (show (i : Int) < (xs.length : Int) by omega), if_pos rfl]
    have e : wrap64 ((i : Int) + 1) = ((i + 1 : Nat) : Int) := by unfold wrap64; omega
    rw [e]
    exact ints_l0 xs hx d (i + 1) (by omega) (by omega) k (by omega)
theorem ints_f (xs : List Int) (hx : xs.length ≤ 1000) : grommetref05_Ints.f 1001 xs xs = some true := by
  unfold grommetref05_Ints.f
  rw [if_pos rfl]
  exact ints_l0 xs hx xs.length 0 (by omega) (by omega) _ (by omega)
theorem ints_calls {w : World} {A B : Option Addr} {c d : Nat} (xs : List Int) (hx : xs.length ≤ 1000) (h : I64.C w A xs.length xs) (hc : xs.length ≤ c) (k : I64.C w B xs.length xs) (hd : xs.length ≤ d) :
    Calls Try.prog 14 #[.slice A xs.length c, .slice B xs.length d] w fun e w' => e = .returned (.bool true) ∧ Drawn0 w w' :=
  grommetref05_Ints.calls _ A c xs B d xs true w h hc k hd (ints_f xs hx)
theorem same_f (xs ys : List Int) (a b c : Int) (hx : xs.length ≤ 1000) (hy : ys.length ≤ 1000) : grommetlaw16_sameCode.f 1001 xs ys a b c xs ys a b c = some true := by
  unfold grommetlaw16_sameCode.f
  rw [if_pos rfl, if_pos rfl, if_pos rfl, ints_f xs hx, Option.bind_some, if_pos rfl, ints_f ys hy]
  try rfl
theorem raw5_at {w : World} {A : Option Addr} {n : Nat} {xs : List (List Value)} (h : (raw 5).C w A n xs) (i : Nat) (hi : i < n) (u0 u1 u2 u3 u4 : Value) (hx : xs[i]? = some [u0, u1, u2, u3, u4]) : ∃ ad, A = some ad ∧ w.cell? (ad.add (i * 5)) = some u0 ∧ w.cell? ⟨(ad.add (i * 5)).block, (ad.add (i * 5)).off + 1, none⟩ = some u1 ∧ w.cell? ⟨(ad.add (i * 5)).block, (ad.add (i * 5)).off + 2, none⟩ = some u2 ∧ w.cell? ⟨(ad.add (i * 5)).block, (ad.add (i * 5)).off + 3, none⟩ = some u3 ∧ w.cell? ⟨(ad.add (i * 5)).block, (ad.add (i * 5)).off + 4, none⟩ = some u4 := by
  obtain ⟨ad, e, hc⟩ := raw_cells h i hi _ hx
  exact ⟨ad, e, hc 0 _ rfl, by rw [← add_field _ _ 1 (by omega)]; exact hc 1 _ rfl, by rw [← add_field _ _ 2 (by omega)]; exact hc 2 _ rfl, by rw [← add_field _ _ 3 (by omega)]; exact hc 3 _ rfl, by rw [← add_field _ _ 4 (by omega)]; exact hc 4 _ rfl⟩
/-- A function, read of both. -/
theorem fun_at {w W0 : World} {base m : Nat} {tag : Nat → Nat} {F : List S32} {L : List (List Int × Int)} {N : List (Nat × Int)} {G : List S41} {uF uT uX uM uG : Value} {F' T M : List (List Value)} (h : Mh w W0 base m tag F L N G uF uT uX uM uG F' T M) (hW : Below W0.heap.size W0 w) (i : Nat) (hi : i < F.length) (x : S32) (hx : F[i]? = some x) :
    ∃ ad cF A c B d, uF = .slice (some ad) F.length cF ∧ w.cell? (ad.add (i * 5)) = some (.slice A x.f0.f0.length c) ∧ w.cell? ⟨(ad.add (i * 5)).block, (ad.add (i * 5)).off + 1, none⟩ = some (.slice B x.f0.f1.length d) ∧ w.cell? ⟨(ad.add (i * 5)).block, (ad.add (i * 5)).off + 2, none⟩ = some (.int .i64 x.f1) ∧ w.cell? ⟨(ad.add (i * 5)).block, (ad.add (i * 5)).off + 3, none⟩ = some (.int .i64 x.f2) ∧ w.cell? ⟨(ad.add (i * 5)).block, (ad.add (i * 5)).off + 4, none⟩ = some (.int .u64 x.f3) ∧
      I64.C w A x.f0.f0.length x.f0.f0 ∧ x.f0.f0.length ≤ c ∧ I64.C w B x.f0.f1.length x.f0.f1 ∧ x.f0.f1.length ≤ d ∧ x.f0.f0.length ≤ 300 ∧ x.f0.f1.length ≤ 300 := by
  obtain ⟨AF, cF, e, _, hC⟩ := Kd.R_reads h.md.f
  obtain ⟨v, e1, A, c, B, d, rfl, hA, lA, hB, lB, kA, kB⟩ := h.fu i x hx
  obtain ⟨ad, rfl, q0, q1, q2, q3, q4⟩ := raw5_at hC i (by rw [h.fl]; exact hi) _ _ _ _ _ e1
  exact ⟨ad, cF, A, c, B, d, by rw [e, h.fl], q0, q1, q2, q3, q4, Kd.C_below hA hW, lA, Kd.C_below hB hW, lB, kA, kB⟩
section
variable {w W0 : World} {base s m : Nat} {tag : Nat → Nat} {F : List S32} {L : List (List Int × Int)} {N : List (Nat × Int)} {G : List S41} {vF vT vM vG uF uT uX uM uG : Value} {F' T M : List (List Value)}
theorem sh_func_no (h : Sh w base s tag F L N G vF vT vM vG T M) (n : Int) (hn : ¬ (0 ≤ n ∧ n < F.length)) :
    Calls Try.prog 12 #[.pointer (some ⟨s, 0, none⟩), .int .i64 n] w fun e w' => e = .returned (.tuple #[.agg #[.slice none 0 0, .slice none 0 0, .int .i64 0, .int .i64 0, .int .u64 0], .bool false]) ∧ Below w.heap.size w w' := by
  obtain ⟨A, c, rfl⟩ := Kd.R_slice h.st.f
  exact func_no h.st n hn
theorem sh_func_in (h : Sh w base s tag F L N G vF vT vM vG T M) (n : Nat) (hn : n < F.length) (hl : F.length ≤ 100) (x : S32) (hx : F[n]? = some x) (k0 : x.f0.f0.length ≤ 300) (k1 : x.f0.f1.length ≤ 300) :
    Calls Try.prog 12 #[.pointer (some ⟨s, 0, none⟩), .int .i64 n] w fun e w' => ∃ A1 c1 A2 c2, e = .returned (.tuple #[.agg #[.slice A1 x.f0.f0.length c1, .slice A2 x.f0.f1.length c2, .int .i64 x.f1, .int .i64 x.f2, .int .u64 x.f3], .bool true]) ∧
      (I64.C w' A1 x.f0.f0.length x.f0.f0 ∧ x.f0.f0.length ≤ c1 ∧ I64.C w' A2 x.f0.f1.length x.f0.f1 ∧ x.f0.f1.length ≤ c2) ∧ Below w.heap.size w w' := by
  obtain ⟨A, c, rfl⟩ := Kd.R_slice h.st.f
  refine (func_in h.st n hn hl x (by rw [List.getD_eq_getElem?_getD, hx]; rfl) (by omega) (by omega)).mono ?_
  rintro e w' ⟨A1, c1, A2, c2, rfl, h1, h2, h3⟩
  obtain ⟨_, l1, g1⟩ := Kd.R_reads' h1
  obtain ⟨_, l2, g2⟩ := Kd.R_reads' h2
  exact ⟨A1, c1, A2, c2, rfl, ⟨g1, l1, g2, l2⟩, h3⟩
theorem sh_table_no (h : Sh w base s tag F L N G vF vT vM vG T M) (n : Int) (hn : ¬ (0 ≤ n ∧ n < L.length)) :
    Calls Try.prog 13 #[.pointer (some ⟨s, 0, none⟩), .int .i64 n] w fun e w' => e = .returned (.tuple #[.slice none 0 0, .bool false]) ∧ Below w.heap.size w w' := table_no h.st n (by rw [h.tl]; exact hn)
theorem sh_table_in (h : Sh w base s tag F L N G vF vT vM vG T M) (n : Nat) (hn : n < L.length) (p : List Int × Int) (hp : L[n]? = some p) (hl : p.1.length ≤ 1000) :
    Calls Try.prog 13 #[.pointer (some ⟨s, 0, none⟩), .int .i64 n] w fun e w' => ∃ A1 c1, e = .returned (.tuple #[.slice A1 p.1.length c1, .bool true]) ∧ (I64.C w' A1 p.1.length p.1 ∧ p.1.length ≤ c1) ∧ Below w.heap.size w w' := by
  obtain ⟨v, e, hL⟩ := h.ta n p hp
  obtain ⟨A, c, rfl, lc, hC⟩ := Kd.R_reads hL
  refine (table_in h.st n (by rw [h.tl]; exact hn) e lc hC (by omega)).mono ?_
  rintro e w' ⟨A1, c1, rfl, h1, h3⟩
  obtain ⟨_, l1, g1⟩ := Kd.R_reads' h1
  exact ⟨A1, c1, rfl, ⟨g1, l1⟩, h3⟩
theorem sh_most_no (h : Sh w base s tag F L N G vF vT vM vG T M) (n : Int) (hn : ¬ (0 ≤ n ∧ n < L.length)) :
    Calls Try.prog 38 #[.pointer (some ⟨s, 0, none⟩), .int .i64 n] w fun e w' => e = .returned (.int .i64 (-1)) ∧ Drawn0 w w' := most_no h.st n (by rw [h.tl]; exact hn)
theorem sh_most_in (h : Sh w base s tag F L N G vF vT vM vG T M) (n : Nat) (hn : n < L.length) (p : List Int × Int) (hp : L[n]? = some p) :
    Calls Try.prog 38 #[.pointer (some ⟨s, 0, none⟩), .int .i64 n] w fun e w' => e = .returned (.int .i64 p.2) ∧ Drawn0 w w' := by
  obtain ⟨v, e, hL⟩ := h.ta n p hp
  exact most_in h.st n (by rw [h.tl]; exact hn) e
theorem sh_mem_no (h : Sh w base s tag F L N G vF vT vM vG T M) (n : Int) (hn : ¬ (0 ≤ n ∧ n < N.length)) :
    Calls Try.prog 39 #[.pointer (some ⟨s, 0, none⟩), .int .i64 n] w fun e w' => e = .returned (.pointer none) ∧ Drawn0 w w' := mem_no h.st n (by rw [h.ml]; exact hn)
theorem sh_mem_in (h : Sh w base s tag F L N G vF vT vM vG T M) (n : Nat) (hn : n < N.length) (p : Nat × Int) (hp : N[n]? = some p) : ∃ g A c, Mm w base 144 g A p.1 c (List.replicate p.1 0) p.2 ∧
    Calls Try.prog 39 #[.pointer (some ⟨s, 0, none⟩), .int .i64 n] w fun e w' => e = .returned (.pointer (some ⟨g, 0, none⟩)) ∧ Drawn0 w w' := by
  obtain ⟨v, e, g, A, c, rfl, hM, _⟩ := h.me n p hp
  exact ⟨g, A, c, hM, mem_in h.st n (by rw [h.ml]; exact hn) e⟩
/-- A table, read of the model. -/
theorem tab_at (h : Mh w W0 base m tag F L N G uF uT uX uM uG F' T M) (i : Nat) (hi : i < L.length) (p : List Int × Int) (hp : L[i]? = some p) :
    ∃ ad cT A c, uT = .slice (some ad) L.length cT ∧ w.cell? (ad.add i) = some (.slice A p.1.length c) ∧ I64.C w A p.1.length p.1 ∧ p.1.length ≤ c ∧ ∃ ax cX, uX = .slice (some ax) L.length cX ∧ w.cell? (ax.add i) = some (.int .i64 p.2) := by
  obtain ⟨AT, cT, e, _, hC⟩ := Kd.R_reads h.md.t
  obtain ⟨v, e1, hL⟩ := h.ta i p hp
  obtain ⟨A, c, rfl, lc, hA⟩ := Kd.R_reads hL
  obtain ⟨ad, rfl, q0⟩ := raw1_at hC i (by rw [h.tl]; exact hi) _ e1
  obtain ⟨AX, cX, e2, _, hX⟩ := Kd.R_reads h.md.x
  obtain ⟨ax, e3, hx⟩ := (Kd.reads_of_C (d := (0 : Int)) (h1 := fun _ => rfl) hX).2.2 (by rw [List.length_map]; omega)
  have hq := hx i (by rw [List.length_map]; exact hi)
  have hv : (L.map (·.2)).getD i 0 = p.2 := by rw [List.getD_eq_getElem?_getD, List.getElem?_map, hp]; rfl
  rw [hv] at hq
  exact ⟨ad, cT, A, c, by rw [e, h.tl], q0, hA, lc, ax, cX, by rw [e2, e3, List.length_map], hq⟩
/-- A memory, read of the model. -/
theorem mem_at (h : Mh w W0 base m tag F L N G uF uT uX uM uG F' T M) (i : Nat) (hi : i < N.length) (p : Nat × Int) (hp : N[i]? = some p) :
    ∃ ad cM g A c, uM = .slice (some ad) N.length cM ∧ w.cell? (ad.add i) = some (.pointer (some ⟨g, 0, none⟩)) ∧ Mm w base 130 g A p.1 c (List.replicate p.1 0) p.2 := by
  obtain ⟨AM, cM, e, _, hC⟩ := Kd.R_reads h.md.m
  obtain ⟨v, e1, g, A, c, rfl, hM, _⟩ := h.me i p hp
  obtain ⟨ad, rfl, q0⟩ := raw1_at hC i (by rw [h.ml]; exact hi) _ e1
  exact ⟨ad, cM, g, A, c, by rw [e, h.ml], q0, hM⟩
/-- A global, read of the model. -/
theorem glob_at (h : Mh w W0 base m tag F L N G uF uT uX uM uG F' T M) (i : Nat) (hi : i < G.length) (x : S41) (hx : G[i]? = some x) :
    ∃ ad cG, uG = .slice (some ad) G.length cG ∧ w.cell? (ad.add (i * 3)) = some (.int .i64 x.f0) ∧ w.cell? ⟨(ad.add (i * 3)).block, (ad.add (i * 3)).off + 1, none⟩ = some (.bool x.f1) ∧ w.cell? ⟨(ad.add (i * 3)).block, (ad.add (i * 3)).off + 2, none⟩ = some (.int .u64 x.f2) := by
  obtain ⟨AG, cG, e, _, hC⟩ := Kd.R_reads h.md.g
  obtain ⟨ad, rfl, d0, d1, d2⟩ := at_T41 hC i (by omega) (by omega)
  have hd : rd_T41 G (i : Int) = x := by unfold rd_T41; rw [Int.toNat_natCast, List.getD_eq_getElem?_getD, hx]; rfl
  rw [hd, Int.toNat_natCast] at d0 d1 d2
  exact ⟨ad, cG, e, d0, d1, d2⟩
end
end Go.Proofs.Ytbelijoggbblgaa.Sp
