/- ListParts, walked. -/
import Derived.Test.YtiicmihecdeebaaLt6
import Derived.Test.YtiicmihecdeebaaMan
set_option linter.unusedVariables false
set_option linter.unusedSimpArgs false
namespace Go.Proofs.Ytiicmihecdeebaa.Lt
open Go.RowKit Go.Proofs.YtiicmihecdeebaaW.PrintWords Go.Proofs.YtiicmihecdeebaaW.PrintLast Go.Proofs.YtiicmihecdeebaaW.PrintMore Go.Proofs.Ytiicmihecdeebaa.RListFlats Go.Proofs.Ytiicmihecdeebaa.Man
theorem PRes.any {W w' : World} {e : Ending} {r : Option (List S39)} (h : PRes W w' e r) : ∃ A n c E, e = .returned (.tuple #[.slice A n c, E]) := by
  match r, h with
  | some ns, ⟨A, c, h, _⟩ => exact ⟨_, _, _, _, h⟩
  | none, ⟨t, u, h⟩ => exact ⟨_, _, _, _, h⟩
/-- An empty literal. -/
theorem R_none0 {α : Type} (d : Kd α) (w : World) (base : Nat) (hb : base ≤ w.heap.size) (e : Nat) : d.R e (w.alloc (.cells #[] e)) base (fun _ => True) (.slice (some ⟨w.heap.size, 0, none⟩) 0 0) [] := by
  have h := World.ownsRow_lit (base := base) (e := e) (size := d.sz) w #[] 0 hb (by decide) (by simp)
  exact ⟨fun _ _ => trivial, [], h, by simp [Reps]⟩
theorem cap_of {α : Type} {d : Kd α} {e : Nat} {w : World} {base : Nat} {ok : Nat → Prop} {A : Option Addr} {n c : Nat} {xs : List α} (h : d.R e w base ok (.slice A n c) xs) : xs.length ≤ c := by
  have := Kd.R_reads' h
  omega
theorem tok_M (w w1 : World) (base : Nat) (ok : Nat → Prop) (x : S36) (cs : List Value) (h : k36.K w x cs) : k36.M w1 base ok x cs := by
  obtain rfl := k36_open h
  exact k36_mkM _ _ _ _
/-- Nodes that are read, appended to nodes of which nothing but the reading is held. -/
theorem fixed_C {w w1 : World} (hb : Below w.heap.size w w1) {A : Option Addr} {n : Nat} {xs : List S39} (h : (Kd.fixed k39 w).C w1 A n xs) : k39.C w1 A n xs :=
  Kd.C_read (d := k39) (dm := Kd.fixed k39 w) rfl (fun x cs hk => k39.K_below hb hk) h
theorem row_below {w w1 : World} {A : Option Addr} {n : Nat} {xs : List S39} (h : k39.C w A n xs) (hb : Below w.heap.size w w1) : ReadsRow (k39.K w) k39.sz w1 A n xs :=
  h.imp_ hb (fun _ _ hp => hp)
theorem row_alloc {w : World} {A : Option Addr} {n : Nat} {xs : List S39} (h : k39.C w A n xs) (o : Obj) : ReadsRow (k39.K w) k39.sz (w.alloc o) A n xs := row_below h (below_alloc (Below.refl _ _) o)
theorem wpList_ungate {P : Program} {ops : Array Oper} {Q : Exit → Act → World → Prop} {a : Act} {w : World} {rest : List Oper} {o : Oper} (hw : Region.wanted o (yielded ops a.tmps) = true) (h : wpList P ops Q ({ o with guard := none } :: rest) a w) : wpList P ops Q (o :: rest) a w := by
  unfold wpList at h ⊢
  rw [if_pos hw]
  rw [if_pos (by simp [Region.wanted])] at h
  exact h
theorem same_sum (A6 : Option Addr) (c6 : Nat) (A8 : Option Addr) (c8 : Nat) {x y : List S39} {w : World} (h1 : k39.C w A6 (x ++ y).length (x ++ y)) (h2 : (x ++ y).length ≤ c6) (h3 : k39.C w A8 (x ++ y).length (x ++ y)) (h4 : (x ++ y).length ≤ c8) (hc : cnt (x ++ y) ≤ 4000) :
    Calls Try.prog 9 #[.slice A6 (x.length + y.length) c6, .slice A8 (x.length + y.length) c8] w fun e w' => e = .returned (.bool true) ∧ Below w.heap.size w w' := by
  have k := grommetref10_Same.calls _ A6 c6 (x ++ y) A8 c8 (x ++ y) true w h1 h2 h3 h4 (same_f (by omega) (Nat.le_refl _))
  rw [List.length_append] at k
  exact k
set_option maxHeartbeats 4000000 in
theorem parts_walk (W : World) (A : Option Addr) (c : Nat) (a : List S36) (B : Option Addr) (d : Nat) (b : List S36) (hA : k36.C W A a.length a) (hB : k36.C W B b.length b) :
    Calls Try.prog 3 #[.slice A a.length c, .slice B b.length d] W fun e w' => e = .returned (.bool true) ∧ Below W.heap.size W w' := by
  have HA := Aside0.mk hA
  have HB := Aside0.mk hB
  clear hA hB
  by_cases h1 : (2000 : Int) < (a.length : Int)
  · go_enter Try.func3, Try.ntmps3
    go_wp2_with (go_at_call 7; (refine (grommetlaw10_up.calls true _ rfl).mono ?_); rintro e w1 ⟨rfl, hB1⟩; have HB1 := Aside0.mk hB1; clear hB1)
    go_ret
    exact ⟨rfl, HB1.out⟩
  by_cases h2 : (2000 : Int) < (b.length : Int)
  · go_enter Try.func3, Try.ntmps3
    go_wp2_with (go_at_call 7; (refine (grommetlaw10_up.calls true _ rfl).mono ?_); rintro e w1 ⟨rfl, hB1⟩; have HB1 := Aside0.mk hB1; clear hB1)
    go_ret
    exact ⟨rfl, HB1.out⟩
  have L1 := Aside0.mk (show a.length ≤ 2000 ∧ b.length ≤ 2000 by omega)
  have CA := Aside0.mk (fun (W5 : World) (h5 : Below W.heap.size W W5) => parse_calls W5 A c a (Kd.C_below HA.out h5) (by have := L1.out; omega))
  have CB := Aside0.mk (fun (W5 : World) (h5 : Below W.heap.size W W5) => parse_calls W5 B d b (Kd.C_below HB.out h5) (by have := L1.out; omega))
  have CZ := Aside0.mk (fun (W5 : World) (A5 : Option Addr) (c5 : Nat) (h5 : k36.C W5 A5 (a ++ b).length (a ++ b)) => (by have k := parse_calls W5 A5 c5 (a ++ b) h5 (by have := L1.out; rw [List.length_append]; omega); rw [List.length_append] at k; exact k : Calls Try.prog 8 #[.slice A5 (a.length + b.length) c5] W5 fun e w' => PRes W5 w' e (prsO (a ++ b)) ∧ Below W5.heap.size W5 w'))
  cases ha : prsO a with
  | none =>
    rw [ha] at CA
    clear ha
    go_enter Try.func3, Try.ntmps3
    go_upto_region 4 with (go_at_call 7; (refine (grommetlaw10_up.calls true _ rfl).mono ?_); rintro e w1 ⟨rfl, hB1⟩; have HB1 := Aside0.mk hB1; clear hB1)
    go_upto_region 5 with (go_at_call 8; (refine (CA.out _ (by repeat (first | exact HB1.out | apply pw_below_drewN | apply below_drew))).mono ?_); rintro e w2 ⟨⟨t2, u2_, rfl⟩, hB2⟩; have HB2 := Aside0.mk (HB1.out.trans (hB2.mono HB1.out.size)); clear hB2)
    go_upto_region 6 with (go_at_call 8; (refine (CB.out _ (by repeat (first | exact HB2.out | apply pw_below_drewN | apply below_drew))).mono ?_); rintro e w3 ⟨hP3, hB3⟩; obtain ⟨A3, n3, c3, E3, rfl⟩ := hP3.any; clear hP3; have HB3 := Aside0.mk (HB2.out.trans (hB3.mono HB2.out.size)); have HBx3 := Aside0.mk hB3; clear hB3)
    go_upto_region 7 with (first | ((with_reducible refine gate_builtin (b := .append) (xs := #[.tmp 33, .tmp 34]) rfl ?_); at_builtin; refine Kd.R_append_rows k36 (Rr := k36.K W) (w0 := w3) w3.heap.size rfl (.tmp 33) (.tmp 34) 22 36 (.agg #[(.int .i64 0), (.int .i64 0), (.string ⟨#[]⟩)]) 32 rfl Try.underlying22 info36 rfl (Nat.zero_lt_succ _) (by omega) (.slice (some ⟨w3.heap.size, 0, none⟩) 0 0) ([] : List S36) a _ _ _ (fun _ => True) (fun _ => False) rfl rfl ?aO ?aR ?aK (fun _ h => h.elim) (fun _ _ => trivial) ?aB ?aS ?aL ?_; (case aO => exact (R_none0 k36 w3 w3.heap.size (Nat.le_refl _) 36)); (case aR => exact (Kd.C_below HA.out (below_alloc HB3.out _))); (case aK => exact (fun x cs h => tok_M _ _ _ _ x cs h)); (case aB => exact (below_alloc (Below.refl _ _) _)); (case aS => exact (below_alloc (Below.refl w3.heap.size w3) _).size); (case aL => have := L1.out; (try simp only [List.length_nil]); omega); intro v4 w4 hR4 hB4 hg4 hat4; rw [List.nil_append] at hR4; have HR4 := Aside0.mk hR4; have HB4 := Aside0.mk hB4; clear hR4 hB4 hg4 hat4) | ((with_reducible refine gate_builtin (b := .append) (xs := #[.tmp 35, .tmp 36]) rfl ?_); at_builtin; refine Kd.R_append_rows k36 (Rr := k36.K W) (w0 := w3) w3.heap.size rfl (.tmp 35) (.tmp 36) 22 36 (.agg #[(.int .i64 0), (.int .i64 0), (.string ⟨#[]⟩)]) 32 rfl Try.underlying22 info36 rfl (Nat.zero_lt_succ _) (by omega) v4 a b _ _ _ (fun _ => True) (fun _ => False) rfl rfl ?aO ?aR ?aK (fun _ h => h.elim) (fun _ _ => trivial) ?aB ?aS ?aL ?_; (case aO => exact HR4.out); (case aR => exact (Kd.C_below HB.out (HB3.out.trans (HB4.out.mono HB3.out.size)))); (case aK => exact (fun x cs h => tok_M _ _ _ _ x cs h)); (case aB => exact HB4.out); (case aS => exact HB4.out.size); (case aL => have := L1.out; omega); intro v5 w5 hR5 hB5 hg5 hat5; have HR5 := Aside0.mk hR5; have HB5 := Aside0.mk hB5; clear hR5 hB5 hg5 hat5; obtain ⟨A5, c5, e5⟩ := Kd.R_slice HR5.out; subst e5; have HR5b := Aside0.mk (Kd.R_reads' HR5.out).2.2; rw [List.length_append]) | (go_at_call 8; (refine (CZ.out _ _ _ HR5b.out).mono ?_); rintro e w6 ⟨hP6, hB6⟩; obtain ⟨A6, n6, c6, E6, rfl⟩ := hP6.any; clear hP6; have HBx6 := Aside0.mk (HB5.out.trans (hB6.mono HB5.out.size)); have HB6 := Aside0.mk (HB3.out.trans (HBx6.out.mono HB3.out.size)); clear hB6))
    go_wp2_with fail
    go_ret
    exact ⟨rfl, HB6.out⟩
  | some x =>
    rw [ha] at CA
    cases hb : prsO b with
    | none =>
      rw [hb] at CB
      clear ha hb
      go_enter Try.func3, Try.ntmps3
      go_upto_region 4 with (go_at_call 7; (refine (grommetlaw10_up.calls true _ rfl).mono ?_); rintro e w1 ⟨rfl, hB1⟩; have HB1 := Aside0.mk hB1; clear hB1)
      go_upto_region 5 with (go_at_call 8; (refine (CA.out _ (by repeat (first | exact HB1.out | apply pw_below_drewN | apply below_drew))).mono ?_); rintro e w2 ⟨⟨A2, c2, rfl, hR2⟩, hB2⟩; have HX2 := Aside0.mk hR2; clear hR2; have HB2 := Aside0.mk (HB1.out.trans (hB2.mono HB1.out.size)); clear hB2)
      go_upto_region 6 with (go_at_call 8; (refine (CB.out _ (by repeat (first | exact HB2.out | apply pw_below_drewN | apply below_drew))).mono ?_); rintro e w3 ⟨⟨t3, u3_, rfl⟩, hB3⟩; have HB3 := Aside0.mk (HB2.out.trans (hB3.mono HB2.out.size)); have HBx3 := Aside0.mk hB3; clear hB3)
      go_upto_region 7 with (first | ((with_reducible refine gate_builtin (b := .append) (xs := #[.tmp 33, .tmp 34]) rfl ?_); at_builtin; refine Kd.R_append_rows k36 (Rr := k36.K W) (w0 := w3) w3.heap.size rfl (.tmp 33) (.tmp 34) 22 36 (.agg #[(.int .i64 0), (.int .i64 0), (.string ⟨#[]⟩)]) 32 rfl Try.underlying22 info36 rfl (Nat.zero_lt_succ _) (by omega) (.slice (some ⟨w3.heap.size, 0, none⟩) 0 0) ([] : List S36) a _ _ _ (fun _ => True) (fun _ => False) rfl rfl ?aO ?aR ?aK (fun _ h => h.elim) (fun _ _ => trivial) ?aB ?aS ?aL ?_; (case aO => exact (R_none0 k36 w3 w3.heap.size (Nat.le_refl _) 36)); (case aR => exact (Kd.C_below HA.out (below_alloc HB3.out _))); (case aK => exact (fun x cs h => tok_M _ _ _ _ x cs h)); (case aB => exact (below_alloc (Below.refl _ _) _)); (case aS => exact (below_alloc (Below.refl w3.heap.size w3) _).size); (case aL => have := L1.out; (try simp only [List.length_nil]); omega); intro v4 w4 hR4 hB4 hg4 hat4; rw [List.nil_append] at hR4; have HR4 := Aside0.mk hR4; have HB4 := Aside0.mk hB4; clear hR4 hB4 hg4 hat4) | ((with_reducible refine gate_builtin (b := .append) (xs := #[.tmp 35, .tmp 36]) rfl ?_); at_builtin; refine Kd.R_append_rows k36 (Rr := k36.K W) (w0 := w3) w3.heap.size rfl (.tmp 35) (.tmp 36) 22 36 (.agg #[(.int .i64 0), (.int .i64 0), (.string ⟨#[]⟩)]) 32 rfl Try.underlying22 info36 rfl (Nat.zero_lt_succ _) (by omega) v4 a b _ _ _ (fun _ => True) (fun _ => False) rfl rfl ?aO ?aR ?aK (fun _ h => h.elim) (fun _ _ => trivial) ?aB ?aS ?aL ?_; (case aO => exact HR4.out); (case aR => exact (Kd.C_below HB.out (HB3.out.trans (HB4.out.mono HB3.out.size)))); (case aK => exact (fun x cs h => tok_M _ _ _ _ x cs h)); (case aB => exact HB4.out); (case aS => exact HB4.out.size); (case aL => have := L1.out; omega); intro v5 w5 hR5 hB5 hg5 hat5; have HR5 := Aside0.mk hR5; have HB5 := Aside0.mk hB5; clear hR5 hB5 hg5 hat5; obtain ⟨A5, c5, e5⟩ := Kd.R_slice HR5.out; subst e5; have HR5b := Aside0.mk (Kd.R_reads' HR5.out).2.2; rw [List.length_append]) | (go_at_call 8; (refine (CZ.out _ _ _ HR5b.out).mono ?_); rintro e w6 ⟨hP6, hB6⟩; obtain ⟨A6, n6, c6, E6, rfl⟩ := hP6.any; clear hP6; have HBx6 := Aside0.mk (HB5.out.trans (hB6.mono HB5.out.size)); have HB6 := Aside0.mk (HB3.out.trans (HBx6.out.mono HB3.out.size)); clear hB6))
      go_wp2_with fail
      go_ret
      exact ⟨rfl, HB6.out⟩
    | some y =>
      rw [hb] at CB
      rw [prsO_app ha hb] at CZ
      have LX := Aside0.mk (show cnt (x ++ y) ≤ 4000 ∧ x.length ≤ 4000 ∧ x.length + y.length ≤ 8000 by
        have q1 := (prsO_flat ha).2.1
        have q2 := (prsO_flat hb).2.1
        have q3 := cnt_len x
        have q4 := cnt_len y
        have := L1.out
        rw [cnt_app]
        omega)
      clear ha hb
      go_enter Try.func3, Try.ntmps3
      go_upto_region 4 with (go_at_call 7; (refine (grommetlaw10_up.calls true _ rfl).mono ?_); rintro e w1 ⟨rfl, hB1⟩; have HB1 := Aside0.mk hB1; clear hB1)
      go_upto_region 5 with (go_at_call 8; (refine (CA.out _ (by repeat (first | exact HB1.out | apply pw_below_drewN | apply below_drew))).mono ?_); rintro e w2 ⟨⟨A2, c2, rfl, hR2⟩, hB2⟩; have HX2 := Aside0.mk hR2; clear hR2; have HB2 := Aside0.mk (HB1.out.trans (hB2.mono HB1.out.size)); clear hB2)
      go_upto_region 6 with (go_at_call 8; (refine (CB.out _ (by repeat (first | exact HB2.out | apply pw_below_drewN | apply below_drew))).mono ?_); rintro e w3 ⟨⟨A3, c3, rfl, hR3⟩, hB3⟩; have HY3 := Aside0.mk hR3; have HX3 := Aside0.mk (Kd.C_below (Kd.R_reads' HX2.out).2.2 hB3); clear hR3; have HB3 := Aside0.mk (HB2.out.trans (hB3.mono HB2.out.size)); have HBx3 := Aside0.mk hB3; clear hB3)
      go_upto_region 7 with (first | ((with_reducible refine gate_builtin (b := .append) (xs := #[.tmp 33, .tmp 34]) rfl ?_); at_builtin; refine Kd.R_append_rows k36 (Rr := k36.K W) (w0 := w3) w3.heap.size rfl (.tmp 33) (.tmp 34) 22 36 (.agg #[(.int .i64 0), (.int .i64 0), (.string ⟨#[]⟩)]) 32 rfl Try.underlying22 info36 rfl (Nat.zero_lt_succ _) (by omega) (.slice (some ⟨w3.heap.size, 0, none⟩) 0 0) ([] : List S36) a _ _ _ (fun _ => True) (fun _ => False) rfl rfl ?aO ?aR ?aK (fun _ h => h.elim) (fun _ _ => trivial) ?aB ?aS ?aL ?_; (case aO => exact (R_none0 k36 w3 w3.heap.size (Nat.le_refl _) 36)); (case aR => exact (Kd.C_below HA.out (below_alloc HB3.out _))); (case aK => exact (fun x cs h => tok_M _ _ _ _ x cs h)); (case aB => exact (below_alloc (Below.refl _ _) _)); (case aS => exact (below_alloc (Below.refl w3.heap.size w3) _).size); (case aL => have := L1.out; (try simp only [List.length_nil]); omega); intro v4 w4 hR4 hB4 hg4 hat4; rw [List.nil_append] at hR4; have HR4 := Aside0.mk hR4; have HB4 := Aside0.mk hB4; clear hR4 hB4 hg4 hat4) | ((with_reducible refine gate_builtin (b := .append) (xs := #[.tmp 35, .tmp 36]) rfl ?_); at_builtin; refine Kd.R_append_rows k36 (Rr := k36.K W) (w0 := w3) w3.heap.size rfl (.tmp 35) (.tmp 36) 22 36 (.agg #[(.int .i64 0), (.int .i64 0), (.string ⟨#[]⟩)]) 32 rfl Try.underlying22 info36 rfl (Nat.zero_lt_succ _) (by omega) v4 a b _ _ _ (fun _ => True) (fun _ => False) rfl rfl ?aO ?aR ?aK (fun _ h => h.elim) (fun _ _ => trivial) ?aB ?aS ?aL ?_; (case aO => exact HR4.out); (case aR => exact (Kd.C_below HB.out (HB3.out.trans (HB4.out.mono HB3.out.size)))); (case aK => exact (fun x cs h => tok_M _ _ _ _ x cs h)); (case aB => exact HB4.out); (case aS => exact HB4.out.size); (case aL => have := L1.out; omega); intro v5 w5 hR5 hB5 hg5 hat5; have HR5 := Aside0.mk hR5; have HB5 := Aside0.mk hB5; clear hR5 hB5 hg5 hat5; obtain ⟨A5, c5, e5⟩ := Kd.R_slice HR5.out; subst e5; have HR5b := Aside0.mk (Kd.R_reads' HR5.out).2.2; rw [List.length_append]) | (go_at_call 8; (refine (CZ.out _ _ _ HR5b.out).mono ?_); rintro e w6 ⟨⟨A6, c6, rfl, hR6⟩, hB6⟩; have HZ6 := Aside0.mk hR6; clear hR6; rw [List.length_append]; have HBx6 := Aside0.mk (HB5.out.trans (hB6.mono HB5.out.size)); have HB6 := Aside0.mk (HB3.out.trans (HBx6.out.mono HB3.out.size)); clear hB6))
      have HX6 := Aside0.mk (Kd.C_below HX3.out HBx6.out)
      have HY6 := Aside0.mk (Kd.C_below (Kd.R_reads' HY3.out).2.2 HBx6.out)
      have HZC := Aside0.mk (Kd.R_reads' HZ6.out).2.2
      have HZc := Aside0.mk (cap_of HZ6.out)
      go_wp2_with (first | ((with_reducible refine gate_builtin (b := .append) (xs := #[.tmp 55, .tmp 56]) rfl ?_); at_builtin; refine wpList_ungate (by rfl) ?_; refine Kd.R_append_rows (Kd.fixed k39 w6) (Rr := k39.K w6) (w0 := w6) w6.heap.size rfl (.tmp 55) (.tmp 56) 24 39 (.agg #[(.int .i64 0), (.int .i64 0), (.string ⟨#[]⟩), (.slice none 0 0)]) 56 rfl Try.underlying24 info39 rfl (Nat.zero_lt_succ _) (by omega) (.slice (some ⟨w6.heap.size, 0, none⟩) 0 0) ([] : List S39) x _ _ _ (fun _ => True) (fun _ => False) rfl rfl ?aO ?aR ?aK (fun _ h => h.elim) (fun _ _ => trivial) ?aB ?aS ?aL ?_; (case aO => exact (R_none0 (Kd.fixed k39 w6) w6 w6.heap.size (Nat.le_refl _) 39)); (case aR => exact (row_alloc HX6.out _)); (case aK => exact (fun x cs h => h)); (case aB => exact (below_alloc (Below.refl _ _) _)); (case aS => exact (below_alloc (Below.refl w6.heap.size w6) _).size); (case aL => have := LX.out; (try simp only [List.length_nil]); omega); intro v7 w7 hR7 hB7 hg7 hat7; rw [List.nil_append] at hR7; have HR7 := Aside0.mk hR7; have HB7 := Aside0.mk hB7; clear hR7 hB7 hg7 hat7) | ((with_reducible refine gate_builtin (b := .append) (xs := #[.tmp 57, .tmp 58]) rfl ?_); at_builtin; refine wpList_ungate (by rfl) ?_; refine Kd.R_append_rows (Kd.fixed k39 w6) (Rr := k39.K w6) (w0 := w6) w6.heap.size rfl (.tmp 57) (.tmp 58) 24 39 (.agg #[(.int .i64 0), (.int .i64 0), (.string ⟨#[]⟩), (.slice none 0 0)]) 56 rfl Try.underlying24 info39 rfl (Nat.zero_lt_succ _) (by omega) v7 x y _ _ _ (fun _ => True) (fun _ => False) rfl rfl ?aO ?aR ?aK (fun _ h => h.elim) (fun _ _ => trivial) ?aB ?aS ?aL ?_; (case aO => exact HR7.out); (case aR => exact (row_below HY6.out HB7.out)); (case aK => exact (fun x cs h => h)); (case aB => exact HB7.out); (case aS => exact HB7.out.size); (case aL => have := LX.out; omega); intro v8 w8 hR8 hB8 hg8 hat8; have HR8 := Aside0.mk hR8; have HB8 := Aside0.mk hB8; clear hR8 hB8 hg8 hat8; obtain ⟨A8, c8, e8⟩ := Kd.R_slice HR8.out; subst e8; have HC8 := Aside0.mk (fixed_C HB8.out (Kd.R_reads' HR8.out).2.2); have HC8c := Aside0.mk (cap_of HR8.out); rw [List.length_append]) | (go_at_call 9; (refine (same_sum _ _ _ _ (Kd.C_below HZC.out HB8.out) HZc.out HC8.out HC8c.out LX.out.1).mono ?_); rintro e w9 ⟨rfl, hD9⟩; have HB9 := Aside0.mk (HB6.out.trans ((HB8.out.trans (hD9.mono HB8.out.size)).mono HB6.out.size)); clear hD9))
      go_ret
      exact ⟨rfl, HB9.out⟩
end Go.Proofs.Ytiicmihecdeebaa.Lt
