/- The head of the statements of the store's layer; operations that are not carried out; the instance's copy, its cells written out. -/
import Derived.Test.YtbelijoggbblgaaEx13
import Derived.Deep.RegionLaw
namespace Go.Proofs.Ytbelijoggbblgaa.Sp
open Go.RowKit Go.Proofs.YtbelijoggbblgaaW.PrintWords Go.Proofs.YtbelijoggbblgaaW.PrintLast Go.Proofs.Ytbelijoggbblgaa.St
set_option linter.unusedVariables false
set_option linter.unusedSimpArgs false
/-- A global: its type, whether it may be set, its bits. -/
def k41 : Kd (Int × Bool × Int) := Kd.pair (Kd.int .i64) (Kd.pair Kd.bool (Kd.int .u64))
theorem new_calls (w : World) : Calls Try.prog 7 #[] w fun e w' => e = .returned (.pointer (some ⟨w.heap.size, 0, none⟩)) ∧ Row w' w.heap.size 90 #[.slice none 0 0, .slice none 0 0, .slice none 0 0, .slice none 0 0, .slice none 0 0] ∧ Below w.heap.size w w' ∧ w'.heap.size = w.heap.size + 1 := by
  go_enter Try.func7, Try.ntmps7
  go_wp2
  go_ret
  exact ⟨rfl, Row.made _ _ _ rfl, below_alloc (Below.refl _ _) _, by simp⟩
/-- A store of globals alone, the row behind base. -/
structure Gs (w : World) (base s : Nat) (A : Option Addr) (c : Nat) (G : List (Int × Bool × Int)) : Prop where
  lo : s < base
  hi : base ≤ w.heap.size
  row : Row w s 90 #[.slice none 0 0, .slice none 0 0, .slice none 0 0, .slice A G.length c, .slice none 0 0]
  g : k41.R 41 w base (fun _ => True) (.slice A G.length c) G
set_option maxHeartbeats 2000000 in
theorem addG_calls {w : World} {base s : Nat} {AG : Option Addr} {cG : Nat} {G : List (Int × Bool × Int)} (h : Gs w base s AG cG G) (hn : G.length ≤ 100) (ty : Int) (mu : Bool) (v : Int) :
    Calls Try.prog 11 #[.pointer (some ⟨s, 0, none⟩), .agg #[.int .i64 ty, .bool mu, .int .u64 v]] w fun e w' => e = .returned (.int .i64 G.length) ∧ (∃ A c, Gs w' base s A c (G ++ [(ty, mu, v)])) ∧ ∀ w0 : World, Below w0.heap.size w0 w → w0.heap.size ≤ s → Below w0.heap.size w0 w' := by
  have r2 : Row (w.alloc (.cells #[.int .i64 ty, .bool mu, .int .u64 v] 41)) w.heap.size 41 #[.int .i64 ty, .bool mu, .int .u64 v] := Row.made _ _ _ rfl
  have p0 := (h.row.alloc (.cells #[.int .i64 ty, .bool mu, .int .u64 v] 41)).cell 3
  have p7 := ((h.row.alloc (.cells #[.int .i64 ty, .bool mu, .int .u64 v] 41)).alloc (.cells #[.int .i64 ty, .bool mu, .int .u64 v] 41)).cell 3
  simp only [List.getElem?_toArray, List.getElem?_cons_zero, List.getElem?_cons_succ] at p0 p7
  have p2 := r2.cell 0
  have p3 := r2.cell 1
  have p4 := r2.cell 2
  simp only [List.getElem?_toArray, List.getElem?_cons_zero, List.getElem?_cons_succ] at p2 p3 p4
  have HH := Aside0.mk h
  clear r2 h
  go_enter Try.func11, Try.ntmps11
  go_wp2
  obtain ⟨w2, hw2⟩ : ∃ w2, w2 = w.alloc (.cells #[.int .i64 ty, .bool mu, .int .u64 v] 41) := ⟨_, rfl⟩
  rw [← hw2] at p0 p2 p3 p4 p7 ⊢
  have HB := Aside0.mk (show Below w.heap.size w w2.drew by rw [hw2]; exact (below_alloc (Below.refl _ _) _).drew)
  clear hw2
  have HR := Aside0.mk (HH.out.row.below HB.out HH.out.row.lt)
  have HG := Aside0.mk (Kd.R_below HH.out.g HB.out)
  go_region_law
    (first
      | (refine Kd.R_append_step (W := w2.drew) k41 base (by rfl) (.tmp 9) (.tmp 11) 80 41 (.agg #[.int .i64 0, .bool false, .int .u64 0]) 24 rfl Try.underlying80 (by kernel_rfl) rfl (by decide) (by decide) (.slice AG G.length cG) G (ty, mu, v) [.int .i64 ty, .bool mu, .int .u64 v] (fun _ => True) (fun _ => False) rfl (by rfl) ⟨[_], [_, _], rfl, rfl, ⟨[_], [_], rfl, rfl, rfl⟩⟩ (fun k hk => hk.elim) (fun k hk => trivial) HG.out (Below.refl base _) (Nat.le_trans HH.out.hi HB.out.size) (by omega) ?_
         rintro v3 w3 hR3 hB3 hg3 hat3
         obtain ⟨A3, c3, rfl⟩ := Kd.R_slice hR3
         rw [List.length_append, List.length_singleton] at hR3 ⊢
         have r3 := HR.out.grown hg3 (fun e => Kd.R_ne HG.out HR.out (by decide) e.symm)
         have q0 := r3.cell 3
         have z0 := r3.frozen 3
         simp only [List.getElem?_toArray, List.getElem?_cons_zero, List.getElem?_cons_succ] at q0))
  all_goals
    have r4 : Row (w3.setCell ⟨s, 3, none⟩ (.slice A3 (G.length + 1) c3)) s 90 #[.slice none 0 0, .slice none 0 0, .slice none 0 0, .slice A3 (G.length + 1) c3, .slice none 0 0] := r3.put_ 3 (.slice A3 (G.length + 1) c3)
    have hs4 : Gs (w3.setCell ⟨s, 3, none⟩ (.slice A3 (G.length + 1) c3)) base s A3 c3 (G ++ [(ty, mu, v)]) := ⟨HH.out.lo, by have e1 := hg3.size; have e2 := Nat.le_trans HH.out.hi HB.out.size; show base ≤ (w3.setCell ⟨s, 3, none⟩ (.slice A3 (G.length + 1) c3)).heap.size; rw [show (w3.setCell ⟨s, 3, none⟩ (.slice A3 (G.length + 1) c3)).heap.size = w3.heap.size by simp [World.setCell]]; omega, by rw [List.length_append, List.length_singleton]; exact r4, by rw [List.length_append, List.length_singleton]; exact R_past hR3 (p := ⟨s, 3, none⟩) HH.out.lo _⟩
    have hbel : ∀ w0 : World, Below w0.heap.size w0 w → w0.heap.size ≤ s → Below w0.heap.size w0 (w3.setCell ⟨s, 3, none⟩ (.slice A3 (G.length + 1) c3)) := by
      intro w0 h1 h2
      refine Below.setCell (p := ⟨s, 3, none⟩) ?_ h2 _
      have hb2 := h1.trans (below_mono HB.out h1.size)
      exact hb2.grown hg3 hb2.size (fun k hk => Nat.le_of_lt (Nat.lt_of_le_of_lt h2 (Nat.lt_of_lt_of_le HH.out.lo (Kd.R_base HG.out k hk))))
    have q4 := r4.cell 3
    simp only [List.getElem?_toArray, List.getElem?_cons_zero, List.getElem?_cons_succ] at q4
    have HS4 := Aside0.mk hs4
    have HO := Aside0.mk hbel
    clear HR HG HB hs4 hbel hR3 hB3 hg3 hat3 r3 r4 z0 q0 p0 p2 p3 p4 p7
    go_wp2
    go_ret
    exact ⟨by simp, ⟨A3, c3, HS4.out⟩, HO.out⟩
set_option maxHeartbeats 1000000 in
theorem up_calls (w : World) : Calls Try.prog 6 #[] w fun e w' => e = .returned (.bool true) ∧ Below w.heap.size w w' := by
  have A1 := Aside0.mk (show ∀ w1 : World, Gs w1 (w.heap.size + 1) w.heap.size none 0 [] → Below w.heap.size w w1 →
      Calls Try.prog 11 #[.pointer (some ⟨w.heap.size, 0, none⟩), .agg #[.int .i64 1, .bool false, .int .u64 0]] w1 fun e w' => e = .returned (.int .i64 0) ∧ (∃ A c, Gs w' (w.heap.size + 1) w.heap.size A c [(1, false, 0)]) ∧ Below w.heap.size w w' from fun w1 h1 h2 => (addG_calls h1 (by decide) 1 false 0).mono (by rintro e w' ⟨he, hG, hb⟩; exact ⟨he, hG, hb w h2 (Nat.le_refl _)⟩))
  have A2 := Aside0.mk (show ∀ (w2 : World) (A : Option Addr) (c : Nat), Gs w2 (w.heap.size + 1) w.heap.size A c [(1, false, 0)] → Below w.heap.size w w2 →
      Calls Try.prog 11 #[.pointer (some ⟨w.heap.size, 0, none⟩), .agg #[.int .i64 2, .bool false, .int .u64 0]] w2 fun e w' => e = .returned (.int .i64 1) ∧ Below w.heap.size w w' from fun w2 A c h1 h2 => (addG_calls h1 (by decide) 2 false 0).mono (by rintro e w' ⟨he, _, hb⟩; exact ⟨he, hb w h2 (Nat.le_refl _)⟩))
  go_enter Try.func6, Try.ntmps6
  go_wp2_with (first
    | (go_at_call 7; (refine (new_calls _).mono ?_); rintro e w1 ⟨rfl, h1, h2, h3⟩; have H1 := Aside0.mk (show Gs w1 (w.heap.size + 1) w.heap.size none 0 [] from ⟨Nat.lt_succ_self _, by omega, h1, Kd.R_nil _ _ _ _ _⟩); have H2 := Aside0.mk h2; clear h1 h2 h3)
    | (go_at_call 11; (with_reducible refine (A1.out _ H1.out H2.out).mono ?_); rintro e w2 ⟨rfl, ⟨A, c, hG⟩, h5⟩; have H3 := Aside0.mk hG; have H4 := Aside0.mk h5; clear hG h5)
    | (go_at_call 11; (with_reducible refine (A2.out _ _ _ H3.out H4.out).mono ?_); rintro e w3 ⟨rfl, h6⟩))
  go_ret
  exact ⟨rfl, h6⟩
end Go.Proofs.Ytbelijoggbblgaa.Sp
namespace Go.Proofs.Ytbelijoggbblgaa.Ex
open Go.RowKit Go.Proofs.YtbelijoggbblgaaW.PrintWords Go.Proofs.YtbelijoggbblgaaW.PrintLast Go.Proofs.Ytbelijoggbblgaa.RStoreExports
set_option linter.unusedVariables false
set_option linter.unusedSimpArgs false
def offB (l : List (Nat × Value)) (ops : Array Oper) (o : Oper) : Bool := match o.guard with
  | none => false
  | some (j, b) => match (ops[j]?).bind (·.dst) with
    | some m => match l.lookup m with
      | some (.bool c) => c != b
      | some _ => true
      | none => false
    | none => false
theorem off_of {n : Nat} {a : Act} {l : List (Nat × Value)} {ops : Array Oper} {o : Oper} (h : Fr n a l) (hw : offB l ops o = true) : Region.wanted o (yielded ops a.tmps) = false := by
  unfold offB at hw
  unfold Region.wanted
  split at hw
  · cases hw
  · rename_i j b hg
    rw [hg]
    split at hw
    · rename_i m hm
      split at hw
      · rename_i c hc
        show (yielded ops a.tmps j == some b) = false
        unfold yielded
        rw [hm, Option.bind_some, h.has m _ hc]
        simpa using hw
      · rename_i v hv hne
        show (yielded ops a.tmps j == some b) = false
        unfold yielded
        rw [hm, Option.bind_some, h.has m _ hne]
        split
        · rename_i c e
          injection e with e
          exact (hv c e).elim
        · rfl
      · cases hw
    · cases hw
section
variable {P : Program} {ops : Array Oper} {Q : Exit → Act → World → Prop}
/-- An operation that its guard keeps out. -/
theorem listO {n k : Nat} {o : Oper} {rest : List Oper} {a : Act} {w : World} {env : List (Nat × Value)} (hN : o.dst = some k) (hF : Fr n a env) (hw : offB env ops o = true) (hk : k < n)
    (h : ∀ a', Fr n a' ((k, undef) :: env) → wpList P ops Q rest a' w) : wpList P ops Q (o :: rest) a w := by
  unfold wpList
  rw [if_neg (by rw [off_of hF hw]; decide), hN]
  exact h _ (hF.put hk undef)
end
theorem inst_yes' {n : Nat} {w : World} {s base : Nat} {m : S61} {l : List Int} {U : Option Addr} {e_ : Nat} (hs : Row w s 90 #[.slice none 0 0, .slice none 0 0, .slice none 0 0, .slice none 0 0, .slice U 1 e_]) (hR : k64.R 64 w base (fun _ => True) (.slice U 1 e_) [(⟨m, l, l, [], l⟩ : S64)]) (hb : Bi n ⟨m, l, l, [], l⟩) :
    Calls Try.prog 18 #[.pointer (some ⟨s, 0, none⟩), .int .i64 0] w fun e w' => ∃ D0 d0 D1 d1 D2 d2 D3 d3 D4 d4 D5 d5 D6 d6 D8 d8 D9 d9 D10 d10 D11 d11 D12 d12 D13 d13 D14 d14, e = .returned (.tuple #[.agg #[.slice D0 m.f0.length d0, .slice D1 m.f1.length d1, .slice D2 m.f2.length d2, .slice D3 m.f3.length d3, .slice D4 m.f4.length d4, .slice D5 m.f5.length d5, .slice D6 m.f6.length d6, .int .i64 m.f7, .slice D8 m.f8.length d8, .slice D9 m.f9.length d9, .slice D10 m.f10.length d10, .slice D11 l.length d11, .slice D12 l.length d12, .slice D13 ([] : List Int).length d13, .slice D14 l.length d14], .bool true]) ∧ k64.M w' w.heap.size (fun _ => True) (⟨m, l, l, [], l⟩ : S64) [.slice D0 m.f0.length d0, .slice D1 m.f1.length d1, .slice D2 m.f2.length d2, .slice D3 m.f3.length d3, .slice D4 m.f4.length d4, .slice D5 m.f5.length d5, .slice D6 m.f6.length d6, .int .i64 m.f7, .slice D8 m.f8.length d8, .slice D9 m.f9.length d9, .slice D10 m.f10.length d10, .slice D11 l.length d11, .slice D12 l.length d12, .slice D13 ([] : List Int).length d13, .slice D14 l.length d14] ∧ Below w.heap.size w w' := inst_yes hs hR hb
/-- Two that are both first are the same. -/
theorem first_same {l : List S74} {name : ByteArray} {j k : Int} (h : First l name j) (hk0 : 0 ≤ k) (hk1 : k < l.length) (hn : ((rd_T74 l k).f0 == name) = true) (hbe : ∀ i : Int, 0 ≤ i → i < k → ((rd_T74 l i).f0 == name) = false) : j = k := by
  rcases h with ⟨rfl, h⟩ | ⟨h0, h1, h2, h3⟩
  · have := h k hk0 hk1
    rw [hn] at this
    cases this
  · rcases Int.lt_trichotomy j k with h | h | h
    · have := hbe j h0 h
      rw [h2] at this
      cases this
    · exact h
    · have := h3 k hk0 h
      rw [hn] at this
      cases this
theorem first_none {l : List S74} {name : ByteArray} {j : Int} (h : First l name j) (hbe : ∀ i : Int, 0 ≤ i → i < l.length → ((rd_T74 l i).f0 == name) = false) : j = -1 := by
  rcases h with ⟨rfl, h⟩ | ⟨h0, h1, h2, h3⟩
  · rfl
  · have := hbe j h0 h1
    rw [h2] at this
    cases this
/-- May this export be told? -/
def okE (l : List Int) (e : S74) : Prop := 0 ≤ e.f1 ∧ e.f1 ≤ 3 ∧ e.f1 ≠ 2 ∧ 0 ≤ e.f2 ∧ e.f2 < l.length
theorem listOf_ok {m : S61} {l : List Int} {k : Int} (h0 : 0 ≤ k) (h3 : k ≤ 3) (h2 : k ≠ 2) : listOf ⟨m, l, l, [], l⟩ k = l := by
  unfold listOf
  by_cases a : k = 0
  · rw [if_pos a]
  · by_cases b : k = 1
    · rw [if_neg a, if_pos b]
    · have c : k = 3 := by omega
      rw [if_neg a, if_neg b, if_neg h2, if_pos c]
theorem listOf_no {m : S61} {l : List Int} {k : Int} (h : ¬ (0 ≤ k ∧ k ≤ 3 ∧ k ≠ 2)) : listOf ⟨m, l, l, [], l⟩ k = [] := by
  unfold listOf
  by_cases b : k = 2
  · subst b; rfl
  · rw [if_neg (by omega), if_neg (by omega), if_neg b, if_neg (by omega)]
theorem tells_ok {m : S61} {l : List Int} {e : S74} {k a : Int} {is : Bool} (h : Tells ⟨m, l, l, [], l⟩ e k a is) (ho : okE l e) : k = e.f1 ∧ a = rd l e.f2 ∧ is = true := by
  obtain ⟨h0, h3, h2, i0, i1⟩ := ho
  unfold Tells at h
  rw [listOf_ok h0 h3 h2] at h
  rcases h with ⟨hn, _⟩ | ⟨_, _, a1, a2, a3⟩
  · exact absurd ⟨i0, i1⟩ hn
  · exact ⟨a1, a2, a3⟩
theorem tells_no {m : S61} {l : List Int} {e : S74} {k a : Int} {is : Bool} (h : Tells ⟨m, l, l, [], l⟩ e k a is) (ho : ¬ okE l e) : k = 0 ∧ a = 0 ∧ is = false := by
  rcases h with ⟨_, a1, a2, a3⟩ | ⟨i0, i1, _⟩
  · exact ⟨a1, a2, a3⟩
  · exfalso
    by_cases hk : 0 ≤ e.f1 ∧ e.f1 ≤ 3 ∧ e.f1 ≠ 2
    · rw [listOf_ok hk.1 hk.2.1 hk.2.2] at i1
      exact ho ⟨hk.1, hk.2.1, hk.2.2, i0, i1⟩
    · rw [listOf_no hk] at i1
      simp at i1
      omega
end Go.Proofs.Ytbelijoggbblgaa.Ex
