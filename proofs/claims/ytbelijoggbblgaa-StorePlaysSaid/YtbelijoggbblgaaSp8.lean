import Derived.Test.YtbelijoggbblgaaSp0
import Derived.WalkSpells
import Derived.Outline
import Derived.Laws.BytesArg
import Derived.OwnWalk
import Derived.LaidEql
import Derived.Lib.AppendZeros
namespace Go.Proofs.Ytbelijoggbblgaa.Sp
open Go.RowKit Go.Proofs.YtbelijoggbblgaaW.PrintWords Go.Proofs.YtbelijoggbblgaaW.PrintLast Go.Proofs.YtbelijoggbblgaaW.PrintMore Go.Proofs.Ytbelijoggbblgaa.PStorePlays Go.Proofs.Ytbelijoggbblgaa.St
set_option linter.unusedVariables false
set_option linter.unusedSimpArgs false
def bytes (xs : List Int) : Array Value := (xs.map (Value.int .u8)).toArray
theorem made_bytes (n : Nat) : madeCells #[.int .u8 0] n = bytes (List.replicate n 0) := by
  apply Array.ext'
  simp [madeCells, bytes, Nat.mod_one, List.map_const']
theorem rep_range (n : Nat) : ∀ x ∈ List.replicate n (0 : Int), 0 ≤ x ∧ x < 256 := by
  intro x hx
  obtain ⟨_, rfl⟩ := List.mem_replicate.1 hx
  decide
set_option maxHeartbeats 1000000 in
theorem mem_new_calls (w : World) (lo hi : Int) (has : Bool) (h0 : 0 ≤ lo) (h1 : lo ≤ 16) (h2 : has = true → lo ≤ hi ∧ hi ≤ 16) :
    Calls Try.prog 57 #[.agg #[.int .i64 lo, .int .i64 hi, .bool has]] w fun e w' => e = .returned (.tuple #[.pointer (some ⟨w.heap.size + 1 + 1, 0, none⟩), .nilIface]) ∧
      Row w' (w.heap.size + 1) 5 (madeCells #[.int .u8 0] (lo * 256).toNat) ∧ Row w' (w.heap.size + 1 + 1) 144 #[.slice (some ⟨w.heap.size + 1, 0, none⟩) (lo * 256).toNat (lo * 256).toNat, .int .i64 (if has = true then hi else 16)] ∧ Below w.heap.size w w' := by
  have hm := print_make_int (P := Try.prog) 109 5 (.int .u8 0) 1 (by kernel_rfl) (by kernel_rfl) rfl (by decide) (lo * 256) (by omega) (by omega)
  have hw : IntKind.i64.wrap (lo * 256) = lo * 256 := by rw [IntKind.wrap_i64]; omega
  have e1 : decide (lo < 0) = false := decide_eq_false (by omega)
  have e2 : decide (16 < lo) = false := decide_eq_false (by omega)
  cases has
  · go_enter Try.func57, Try.ntmps57
    go_wp2
    all_goals (try (exfalso; omega))
    go_ret2
    refine ⟨rfl, Row.alloc (Row.made _ _ _ (by simp)) _, Row.made _ _ _ (by simp), below_alloc (below_alloc (below_alloc (Below.refl _ _) _) _) _⟩
  · obtain ⟨h3, h4⟩ := h2 rfl
    go_enter Try.func57, Try.ntmps57
    go_wp2
    all_goals (try (exfalso; omega))
    all_goals go_ret2
    refine ⟨rfl, Row.alloc (Row.made _ _ _ (by simp)) _, Row.made _ _ _ (by simp), below_alloc (below_alloc (below_alloc (Below.refl _ _) _) _) _⟩
/-- A memory (or its model): the block g is a record of a slice that the call owns, and a number. -/
structure Mm (w : World) (base : Nat) (ty : TypeId) (g : Nat) (A : Option Addr) (n c : Nat) (xs : List Int) (most : Int) : Prop where
  len : xs.length = n
  lo : base ≤ g
  row : Row w g ty #[.slice A n c, .int .i64 most]
  own : w.ownsRow base 5 1 (.slice A n c) n (xs.map (Value.int .u8))
  rng : ∀ x ∈ xs, 0 ≤ x ∧ x < 256
theorem Mm.kept {w w' : World} {base : Nat} {ty : TypeId} {g : Nat} {A : Option Addr} {n c : Nat} {xs : List Int} {most : Int} (h : Mm w base ty g A n c xs most) {row : Option Nat} (hg : w.grownBy w' row)
    (h1 : row ≠ some g) (h2 : blk A = none ∨ blk A ≠ row) : Mm w' base ty g A n c xs most :=
  ⟨h.len, h.lo, h.row.grown hg h1, h.own.kept hg (by rw [ownBlock_slice]; exact h2), h.rng⟩
theorem Mm.drewN {w : World} {base : Nat} {ty : TypeId} {g : Nat} {A : Option Addr} {n c : Nat} {xs : List Int} {most : Int} (h : Mm w base ty g A n c xs most) (k : Nat) : Mm (w.drewN k) base ty g A n c xs most := ⟨h.len, h.lo, h.row, h.own, h.rng⟩
theorem Mm.alloc {w : World} {base : Nat} {ty : TypeId} {g : Nat} {A : Option Addr} {n c : Nat} {xs : List Int} {most : Int} (h : Mm w base ty g A n c xs most) (o : Obj) : Mm (w.alloc o) base ty g A n c xs most := ⟨h.len, h.lo, h.row.alloc o, h.own.alloc o, h.rng⟩
theorem Mm.ne {w : World} {base : Nat} {ty : TypeId} {g : Nat} {A : Option Addr} {n c : Nat} {xs : List Int} {most : Int} (h : Mm w base ty g A n c xs most) (ht : ty ≠ 5) : blk A ≠ some g := by
  rcases h.own.2 with ⟨hv, h0⟩ | ⟨b, cap, cur, hv, hb, hh, _⟩
  · simp only [Value.slice.injEq] at hv; rw [hv.1]; simp [blk]
  · simp only [Value.slice.injEq] at hv; rw [hv.1]; simp only [blk, Option.map_some, ne_eq, Option.some.injEq]
    exact fun e => h.row.differ hh ht e.symm
theorem info5 : (Try.prog.info? 5).map (fun i => (i.zero, i.size, i.bytes)) = some (some (.int .u8 0), 1, 1) := by kernel_rfl
/-- A slice of bytes that the call owns: what it reads as. -/
structure Bs (w : World) (base : Nat) (A : Option Addr) (n c : Nat) (xs : List Int) : Prop where
  len : xs.length = n
  own : w.ownsRow base 5 1 (.slice A n c) n (xs.map (Value.int .u8))
theorem Bs.drewN {w : World} {base : Nat} {A : Option Addr} {n c : Nat} {xs : List Int} (h : Bs w base A n c xs) (k : Nat) : Bs (w.drewN k) base A n c xs := ⟨h.len, h.own⟩
theorem Bs.kept {w w' : World} {base : Nat} {A : Option Addr} {n c : Nat} {xs : List Int} (h : Bs w base A n c xs) {row : Option Nat} (hg : w.grownBy w' row) (h2 : blk A = none ∨ blk A ≠ row) : Bs w' base A n c xs :=
  ⟨h.len, h.own.kept hg (by rw [ownBlock_slice]; exact h2)⟩
theorem Bs.alloc {w : World} {base : Nat} {A : Option Addr} {n c : Nat} {xs : List Int} (h : Bs w base A n c xs) (o : Obj) : Bs (w.alloc o) base A n c xs := ⟨h.len, h.own.alloc o⟩
theorem Bs.cases {w : World} {base : Nat} {A : Option Addr} {n c : Nat} {xs : List Int} (h : Bs w base A n c xs) : (A = none ∧ n = 0 ∧ c = 0 ∧ xs = []) ∨ ∃ b, A = some ⟨b, 0, none⟩ ∧ base ≤ b ∧ b < w.heap.size := by
  rcases h.own.2 with ⟨hv, h0⟩ | ⟨b, cap, cur, hv, hb, hh, _⟩
  · simp only [Value.slice.injEq] at hv
    exact .inl ⟨hv.1, h0, hv.2.2, List.eq_nil_of_length_eq_zero (by rw [h.len]; exact h0)⟩
  · simp only [Value.slice.injEq] at hv
    exact .inr ⟨b, hv.1, hb, (Array.getElem?_eq_some_iff.1 hh).1⟩
theorem Bs.mono {w : World} {base base' : Nat} {A : Option Addr} {n c : Nat} {xs : List Int} (h : Bs w base A n c xs) (hb : base' ≤ base) : Bs w base' A n c xs := by
  refine ⟨h.len, h.own.1, ?_⟩
  rcases h.own.2 with h2 | ⟨b, cap, cur, hv, hB, r⟩
  · exact .inl h2
  · exact .inr ⟨b, cap, cur, hv, Nat.le_trans hb hB, r⟩
theorem Bs.news {w : World} {base b n c : Nat} {xs : List Int} (h : Bs w base (some ⟨b, 0, none⟩) n c xs) : ∀ j u, (xs.map (Value.int .u8))[j]? = some u → w.cell? ((⟨b, 0, none⟩ : Addr).add j) = some u := h.own.cells (g := b) rfl
theorem Bs.cell {w : World} {base b n c : Nat} {xs : List Int} (h : Bs w base (some ⟨b, 0, none⟩) n c xs) (i : Nat) (hi : i < n) : w.cell? ⟨b, i, none⟩ = some (.int .u8 (xs.getD i 0)) := by
  rw [h.own.cellAt i (by omega)]
  have := h.len
  simp [List.getD, show i < xs.length by omega]
theorem Bs.of {w : World} {base n : Nat} {v : Value} {xs : List Int} (hl : xs.length = n) (h : w.ownsRow base 5 1 v n (xs.map (Value.int .u8))) : ∃ A c, v = .slice A n c ∧ Bs w base A n c xs := by
  have h2 := h.2
  rcases h2 with ⟨hv, h0⟩ | ⟨b, cap, cur, hv, hb, hh, _⟩
  · subst hv; subst h0; exact ⟨none, 0, rfl, hl, h⟩
  · subst hv; exact ⟨_, _, rfl, hl, h⟩
theorem Mm.bs {w : World} {base : Nat} {ty : TypeId} {g : Nat} {A : Option Addr} {n c : Nat} {xs : List Int} {most : Int} (h : Mm w base ty g A n c xs most) : Bs w base A n c xs := ⟨h.len, h.own⟩
theorem one_bytes (xs : List Int) : ∀ u ∈ xs.map (Value.int .u8), u.oneCell' = true := ints_oneCell .u8 xs
set_option maxHeartbeats 1000000 in
theorem clone_any {w : World} {base n c : Nat} {A : Option Addr} {xs : List Int} (h : Bs w base A n c xs) (hn : n ≤ 65536) :
    Calls Try.prog 51 #[.slice A n c] w fun e w' => ∃ A' c', e = .returned (.slice A' n c') ∧ Bs w' w.heap.size A' n c' xs ∧ Below w.heap.size w w' := by
  have hnil := @Lib.run_eql_slice_nil Try.prog
  rcases h.cases with ⟨rfl, rfl, rfl, rfl⟩ | ⟨b, rfl, hb, hbl⟩
  · clear h
    go_enter Try.func51, Try.ntmps51
    go_wp2
    go_ret
    exact ⟨none, 0, rfl, ⟨rfl, World.ownsRow_nil _ _ _ _⟩, Below.refl _ _⟩
  · obtain ⟨i0, hi, hz0, hz1, hz2⟩ := info_parts info5
    have hl := h.len
    have H := Aside0.mk h
    have HL := Aside0.mk hl
    clear h hl
    go_enter Try.func51, Try.ntmps51
    go_wp2_with (at_builtin; refine wpList_append_own _ rfl (.tmp 5) (.tmp 6) 109 rfl w.heap.size 5 i0 (.int .u8 0) 1 1 Try.underlying109 hi hz0 hz1 hz2 rfl (by decide) _ 0 [] rfl (World.ownsRow_made w #[] 0 (Nat.le_refl _) (by decide) rfl) ⟨b, 0, none⟩ n c (xs.map (Value.int .u8)) rfl ?c1 ?c2 (one_bytes xs) ?c3 ?c4 ?c5 ?_)
    case c1 => rw [List.length_map, HL.out, Nat.mul_one]
    case c2 => exact (H.out.alloc _).news
    case c3 => unfold maxLen; omega
    case c4 => omega
    case c5 => simp
    intro v' w1 hown hgrow _
    obtain ⟨A', c', rfl, hBs⟩ := Bs.of HL.out hown
    have hB : Below w.heap.size w w1 := (below_alloc (Below.refl w.heap.size w) (.cells #[] 5)).grown hgrow (by simp) (by intro k hk; simp [Value.ownBlock] at hk; omega)
    clear hown hgrow
    go_wp2
    go_ret
    exact ⟨A', c', rfl, hBs, hB⟩
theorem most_calls {w : World} {g n c : Nat} {A : Option Addr} {most : Int} (h : Row w g 144 #[.slice A n c, .int .i64 most]) :
    Calls Try.prog 41 #[.pointer (some ⟨g, 0, none⟩)] w fun e w' => e = .returned (.int .i64 most) ∧ Drawn0 w w' := by
  have c1 : w.cell? ⟨g, 1, none⟩ = some (.int .i64 most) := h.cell 1
  go_enter Try.func41, Try.ntmps41
  go_wp2
  go_ret
  exact ⟨rfl, Drawn0.refl _⟩
theorem bytes_calls {w : World} {base g n c : Nat} {A : Option Addr} {most : Int} {xs : List Int} (h : Mm w base 144 g A n c xs most) (hn : n ≤ 65536) :
    Calls Try.prog 40 #[.pointer (some ⟨g, 0, none⟩)] w fun e w' => ∃ A' c', e = .returned (.slice A' n c') ∧ Bs w' w.heap.size A' n c' xs ∧ Below w.heap.size w w' := by
  have c0 : w.cell? ⟨g, 0, none⟩ = some (.slice A n c) := h.row.cell 0
  have H := Aside0.mk h.bs
  clear h
  go_enter Try.func40, Try.ntmps40
  go_wp2_with (go_at_call 51; (refine (clone_any H.out hn).mono ?_); rintro e w1 ⟨A', c', rfl, hBs, hB⟩)
  go_ret
  exact ⟨A', c', rfl, hBs, hB⟩
theorem push_zero {w : World} {base n c : Nat} {A : Option Addr} {xs : List Int} (h : Bs w base A n c xs) (hb : base ≤ w.heap.size) (hn : n + 1 ≤ 65536) (ty : TypeId) :
    ∃ b c' w', (Builtin.append_ #[109, 109] ty #[.slice A n c, .slice (some ⟨w.heap.size, 0, none⟩) 1 1]).run Try.prog (w.alloc (.cells #[.int .u8 0] 5)) = .ok (.slice (some ⟨b, 0, none⟩) (n + 1) c') w' ∧
    Bs w' base (some ⟨b, 0, none⟩) (n + 1) c' (xs ++ [0]) ∧ (w.alloc (.cells #[.int .u8 0] 5)).grownBy w' (blk A) ∧ (blk A = some b ∨ w.heap.size ≤ b) := by
  obtain ⟨i0, hi, hz0, hz1, hz2⟩ := info_parts info5
  obtain ⟨b, c', w', hr, ho, hg, hat, _⟩ := run_append_lies (P := Try.prog) (w.alloc (.cells #[.int .u8 0] 5)) 109 ty base 5 i0 (.int .u8 0) 1 1 Try.underlying109 hi hz0 hz1 hz2 rfl (by decide) (.slice A n c) n _ (h.own.alloc _) ⟨w.heap.size, 0, none⟩ 1 1 [.int .u8 0] rfl
    (by
      intro j u hj
      match j, hj with
      | 0, hj => simp at hj; subst hj; simp [Addr.add])
    (by intro u hu; simp at hu; subst hu; rfl) (by decide) (by unfold maxLen; omega) (by omega) (by simp; omega) (w.heap.size + 1) (by simp)
  have e : xs.map (Value.int .u8) ++ [.int .u8 0] = (xs ++ [0]).map (Value.int .u8) := by simp
  rw [e] at ho
  rw [ownBlock_slice] at hg hat
  exact ⟨b, c', w', hr, ⟨by simp [h.len], ho⟩, hg, hat.imp id (fun h => by omega)⟩
theorem Mm.mono {w : World} {base base' : Nat} {ty : TypeId} {g : Nat} {A : Option Addr} {n c : Nat} {xs : List Int} {most : Int} (h : Mm w base ty g A n c xs most) (hb : base' ≤ base) : Mm w base' ty g A n c xs most :=
  ⟨h.len, Nat.le_trans hb h.lo, h.row, (h.bs.mono hb).own, h.rng⟩
def RNew (w : World) (most : Int) (m : Nat) (e : Ending) (w' : World) : Prop := ∃ (g : Nat) (A : Option Addr) (c : Nat), e = .returned (.pointer (some ⟨g, 0, none⟩)) ∧ Mm w' w.heap.size 130 g A m c (List.replicate m 0) most ∧ Below w.heap.size w w'
set_option maxHeartbeats 2000000 in
theorem rnew (w : World) (lo hi : Int) (has : Bool) (h0 : 0 ≤ lo) (h1 : lo ≤ 16) :
    Calls Try.prog 48 #[.agg #[.int .i64 lo, .int .i64 hi, .bool has]] w (RNew w (if has = true then hi else 16) (lo * 256).toNat) := by
  obtain ⟨m, hm⟩ : ∃ m, m = (lo * 256).toNat := ⟨_, rfl⟩
  have hml : (m : Int) = lo * 256 := by omega
  rw [← hm]
  have HM := Aside0.mk hml
  clear hm hml
  obtain ⟨most, hmost⟩ : ∃ most, most = (if has = true then hi else 16) := ⟨_, rfl⟩
  rw [← hmost]
  have HMO := Aside0.mk hmost
  clear hmost
  have start : ∀ (W : World) (cs : Array Value), W.heap.size = w.heap.size + 1 → Below w.heap.size w W → Mm (W.alloc (.cells #[.slice none 0 0, .int .i64 most] 130)) (w.heap.size + 1) 130 (w.heap.size + 1) none 0 0 (List.replicate 0 0) most :=
    fun W cs hs hB => ⟨rfl, Nat.le_refl _, Row.made _ _ _ hs.symm, (World.ownsRow_nil _ _ _ _), by intro x hx; simp at hx⟩
  cases has
  all_goals
    go_enter Try.func48, Try.ntmps48
    go_wp2_with fail
    go_loopg [4] m (fun kq v4 w' => ∃ (j : Nat) (A' : Option Addr) (c' : Nat), v4 = .int .i64 j ∧ j + kq = m ∧ Mm w' (w.heap.size + 1) 130 (w.heap.size + 1) A' j c' (List.replicate j 0) most ∧ w'.cell? ⟨w.heap.size, 0, none⟩ = some (.int .i64 lo) ∧ Below w.heap.size w w')
    case atStart =>
      have hmo := HMO.out
      simp at hmo
      refine ⟨0, none, 0, rfl, by omega, ?_, by simp, below_alloc (below_alloc (Below.refl _ _) _) _⟩
      rw [← hmo]
      exact start _ #[] (by simp) (below_alloc (Below.refl _ _) _)
    case round =>
      obtain ⟨j, A1, d1, rfl, hj, hr, hl, hB⟩ := hrel
      have hml := HM.out
      cases gk with
      | zero =>
        obtain rfl : j = m := by omega
        have hge : ¬ ((j : Int) < lo * 256) := by omega
        go_wp2
        go_ret
        exact ⟨w.heap.size + 1, A1, d1, rfl, hr.mono (by omega), hB⟩
      | succ k2 =>
        have hlt : ((j : Int) < lo * 256) = True := eq_true (by omega)
        have c0 : wr.cell? ⟨w.heap.size + 1, 0, none⟩ = some (.slice A1 j d1) := hr.row.cell 0
        have hf0 := hr.row.frozen 0
        have hne := hr.ne (by decide)
        have hgr := hr.row.lt
        obtain ⟨b2, d2, w2, hrun, hB2, hg2, hat⟩ := push_zero hr.bs (by omega) (by omega) 109
        have hrow := (hr.row.alloc (.cells #[.int .u8 0] 5)).grown hg2 (fun e => hne e)
        have q0 := hrow.cell 0
        have q1 := hrow.frozen 0
        simp only [List.getElem?_toArray, List.getElem?_cons_zero] at q0
        have hge : ∀ i, blk A1 = some i → w.heap.size + 1 ≤ i := fun i hi => (hr.own.lt i (by rw [ownBlock_slice]; exact hi)).1
        have hBx : Below (w.heap.size + 1) wr (w2.setCell ⟨w.heap.size + 1, 0, none⟩ (.slice (some ⟨b2, 0, none⟩) (j + 1) d2)) :=
          (((Below.refl _ wr).alloc (by omega) (.cells #[.int .u8 0] 5)).grown hg2 (by simp; omega) hge).setCell (Nat.le_refl _) _
        have hl2 := (hBx.cell (p := ⟨w.heap.size, 0, none⟩) (by simp)).trans hl
        have hB3 := hB.trans (hBx.mono (by omega))
        have hM : Mm (w2.setCell ⟨w.heap.size + 1, 0, none⟩ (.slice (some ⟨b2, 0, none⟩) (j + 1) d2)) (w.heap.size + 1) 130 (w.heap.size + 1) (some ⟨b2, 0, none⟩) (j + 1) d2 (List.replicate (j + 1) 0) most := by
          have hne2 : b2 ≠ w.heap.size + 1 := by
            intro hbe
            rcases hB2.own.2 with ⟨hv, _⟩ | ⟨b', cap, cur, hv, hb, hh, _⟩
            · cases hv
            · simp only [Value.slice.injEq, Option.some.injEq, Addr.mk.injEq, and_true, true_and] at hv
              obtain ⟨rfl, _⟩ := hv
              exact hrow.differ hh (by decide) hbe.symm
          have hk := hB2.kept (grown_set (World.grownBy.refl w2 (some (w.heap.size + 1))) 0 (.slice (some ⟨b2, 0, none⟩) (j + 1) d2)) (.inr (by simp [blk, hne2]))
          rw [← List.replicate_succ'] at hk
          exact ⟨hk.len, hr.lo, by simpa using hrow.put_ 0 (.slice (some ⟨b2, 0, none⟩) (j + 1) d2), hk.own, rep_range _⟩
        have hjb : (j : Int) ≤ 4096 := by omega
        have HRUN := Aside0.mk hrun
        have HL2 := Aside0.mk hl2
        clear hrun hr hB hne hB2 hg2 hat hge hBx hl2 hml
        go_wp2_with (at_builtin; refine Lib.wpList_append_run _ rfl (.tmp 25) (.tmp 26) 109 109 rfl _ _ rfl rfl _ _ HRUN.out ?_)
        go_roundg k2
        case measure => omega
        case rel => exact ⟨j + 1, _, d2, by simp, by omega, hM, HL2.out, hB3⟩
theorem equalIn_err (w : World) (d : Nat) (a b : Int) : (Op.equalIn (d + 2) 34 (.iface 92 (.int .i64 a)) (.iface 92 (.int .i64 b))).run Try.prog w = .ok (a == b) w := by
  obtain ⟨ms, hi⟩ : ∃ ms, Try.prog.underlying 34 = some (.interface ms) := ⟨Try.prog.methodsAt 34, by kernel_rfl⟩
  have hn : Try.prog.underlying 92 = some (.int .i64) := by kernel_rfl
  obtain ⟨i, hinfo, hcomp⟩ : ∃ i, Try.prog.info? 92 = some i ∧ i.comparable = true := by
    have h : (Try.prog.info? 92).map (·.comparable) = some true := by kernel_rfl
    cases hq : Try.prog.info? 92 with
    | none => rw [hq] at h; cases h
    | some i => rw [hq] at h; exact ⟨i, rfl, Option.some.inj h⟩
  simp [Op.equalIn, run_underlying hi, run_underlying hn, typeInfo, hinfo, hcomp]
theorem err_eql (w : World) (a b : Int) : (binOp .eql 34 (.iface 92 (.int .i64 a)) (.iface 92 (.int .i64 b))).run Try.prog w = .ok (.bool (a == b)) w := by
  simp only [binOp]
  simp [Op.equal, Op.maxDepth, equalIn_err w 9998 a b]
def may (lo hi : Int) (has : Bool) : Prop := 0 ≤ lo ∧ lo ≤ 16 ∧ (has = true → lo ≤ hi ∧ hi ≤ 16)
theorem may_f (lo hi : Int) (has : Bool) : grommetref15_May.f lo hi has = some (decide (0 ≤ lo ∧ lo ≤ 16 ∧ (has = true → lo ≤ hi ∧ hi ≤ 16))) := by
  unfold grommetref15_May.f
  cases has <;> by_cases c1 : 0 ≤ lo <;> by_cases c2 : lo ≤ 16 <;> by_cases c3 : lo ≤ hi <;> by_cases c4 : hi ≤ 16 <;> simp [c1, c2, c3, c4]
theorem may_t {lo hi : Int} {has : Bool} (h : may lo hi has) : grommetref15_May.f lo hi has = some true := by
  rw [may_f]; unfold may at h; rw [decide_eq_true h]
theorem may_n {lo hi : Int} {has : Bool} (h : ¬ may lo hi has) : grommetref15_May.f lo hi has = some false := by
  rw [may_f]; unfold may at h; rw [decide_eq_false h]
set_option maxHeartbeats 1000000 in
theorem new_no (w : World) (lo hi : Int) (has : Bool) (h : ¬ may lo hi has) :
    Calls Try.prog 57 #[.agg #[.int .i64 lo, .int .i64 hi, .bool has]] w fun e w' => e = .returned (.tuple #[.pointer none, .iface 92 (.int .i64 1)]) ∧ Below w.heap.size w w' := by
  by_cases h0 : lo < 0
  · have e0 : decide (lo < 0) = true := decide_eq_true h0
    clear h
    go_enter Try.func57, Try.ntmps57
    go_wp2
    go_ret2
    exact ⟨rfl, below_alloc (Below.refl _ _) _⟩
  · have e0 : decide (lo < 0) = false := decide_eq_false h0
    by_cases h1 : 16 < lo
    · have e1 : decide (16 < lo) = true := decide_eq_true h1
      clear h
      go_enter Try.func57, Try.ntmps57
      go_wp2
      go_ret2
      exact ⟨rfl, below_alloc (Below.refl _ _) _⟩
    · have e1 : decide (16 < lo) = false := decide_eq_false h1
      have h2 : has = true ∧ (hi < lo ∨ 16 < hi) := by
        unfold may at h
        cases has
        · exact absurd ⟨by omega, by omega, fun h => by cases h⟩ h
        · refine ⟨rfl, ?_⟩
          by_cases hc : hi < lo ∨ 16 < hi
          · exact hc
          · exact absurd ⟨by omega, by omega, fun _ => by omega⟩ h
      obtain ⟨rfl, h2⟩ := h2
      clear h
      by_cases h3 : hi < lo
      · have e2 : decide (hi < lo) = true := decide_eq_true h3
        clear h2
        go_enter Try.func57, Try.ntmps57
        go_wp2
        go_ret2
        exact ⟨rfl, below_alloc (Below.refl _ _) _⟩
      · have e2 : decide (hi < lo) = false := decide_eq_false h3
        have h4 : 16 < hi := by omega
        have e3 : decide (16 < hi) = true := decide_eq_true h4
        clear h2
        go_enter Try.func57, Try.ntmps57
        go_wp2
        go_ret2
        exact ⟨rfl, below_alloc (Below.refl _ _) _⟩
def MNew (w : World) (most : Int) (m : Nat) (e : Ending) (w' : World) : Prop := ∃ (g : Nat) (A : Option Addr) (c : Nat), e = .returned (.tuple #[.pointer (some ⟨g, 0, none⟩), .nilIface]) ∧ Mm w' w.heap.size 144 g A m c (List.replicate m 0) most ∧ Below w.heap.size w w'
theorem mnew (w : World) (lo hi : Int) (has : Bool) (h : may lo hi has) :
    Calls Try.prog 57 #[.agg #[.int .i64 lo, .int .i64 hi, .bool has]] w (MNew w (if has = true then hi else 16) (lo * 256).toNat) :=
  (mem_new_calls w lo hi has h.1 h.2.1 h.2.2).mono fun e w' ⟨he, hb, hg, hB⟩ => ⟨w.heap.size + 1 + 1, some ⟨w.heap.size + 1, 0, none⟩, (lo * 256).toNat, he,
    ⟨List.length_replicate, by omega, hg, ⟨by simp, .inr ⟨w.heap.size + 1, (lo * 256).toNat, _, rfl, by omega, hb, Nat.le_refl _, by have := h.1; have := h.2.1; unfold maxLen; omega, by simp [madeCells], by
      rw [made_bytes]
      simp [bytes]⟩⟩, rep_range _⟩, hB⟩
theorem Mm.below {w w' : World} {base : Nat} {ty : TypeId} {g : Nat} {A : Option Addr} {n c : Nat} {xs : List Int} {most : Int} (h : Mm w base ty g A n c xs most) (hB : Below w.heap.size w w') : Mm w' base ty g A n c xs most :=
  h.kept (grown_of_below hB none) (by simp) (by cases hb : blk A <;> simp)
theorem Bs.below {w w' : World} {base : Nat} {A : Option Addr} {n c : Nat} {xs : List Int} (h : Bs w base A n c xs) (hB : Below w.heap.size w w') : Bs w' base A n c xs :=
  h.kept (grown_of_below hB none) (by cases hb : blk A <;> simp)
theorem Bs.drew {w : World} {base : Nat} {A : Option Addr} {n c : Nat} {xs : List Int} (h : Bs w base A n c xs) : Bs w.drew base A n c xs := ⟨h.len, h.own⟩
theorem Mm.drew {w : World} {base : Nat} {ty : TypeId} {g : Nat} {A : Option Addr} {n c : Nat} {xs : List Int} {most : Int} (h : Mm w base ty g A n c xs most) : Mm w.drew base ty g A n c xs most := ⟨h.len, h.lo, h.row, h.own, h.rng⟩
/-- A slice of bytes as a text. -/
theorem Bs.str {w : World} {base : Nat} {A : Option Addr} {n c : Nat} {xs : List Int} (h : Bs w base A n c xs) : (convert 109 9 (.slice A n c)).run Try.prog w = .ok (.string (strOfNums xs)) w := by
  rcases h.cases with ⟨rfl, rfl, rfl, rfl⟩ | ⟨b, rfl, _, _⟩
  · rw [run_convert_bytes_nil w 109 5 Try.underlying109 Try.underlying5 0 0 9 Try.underlying9]
    rfl
  · exact run_convert_bytes_arg w 109 5 Try.underlying109 Try.underlying5 b 0 n c xs h.len (fun i hi => by rw [Nat.zero_add]; exact h.cell i hi) 9 Try.underlying9
end Go.Proofs.Ytbelijoggbblgaa.Sp
