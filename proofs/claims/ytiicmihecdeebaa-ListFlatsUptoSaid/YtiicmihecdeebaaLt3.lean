/- list.Parse by contract. -/
import Derived.Test.YtiicmihecdeebaaLt2
import Derived.Test.YtiicmihecdeebaaLt4
set_option linter.unusedVariables false
set_option linter.unusedSimpArgs false
namespace Go.Proofs.Ytiicmihecdeebaa.Lt
open Go.RowKit Go.Proofs.YtiicmihecdeebaaW.PrintWords Go.Proofs.YtiicmihecdeebaaW.PrintLast Go.Proofs.YtiicmihecdeebaaW.PrintMore Go.Proofs.Ytiicmihecdeebaa.RListFlats
def ok? {α β : Type} : Except α β → Option β
  | .ok x => some x
  | .error _ => none
def prsO (l : List S36) : Option (List S39) := ok? (prs l)
def PRes (W w' : World) (e : Ending) : Option (List S39) → Prop
  | some ns => ∃ A c, e = .returned (.tuple #[.slice A ns.length c, .nilIface]) ∧ k39.R 39 w' W.heap.size (fun _ => True) (.slice A ns.length c) ns
  | none => ∃ t u, e = .returned (.tuple #[.slice none 0 0, .iface t u])
theorem Mem.first (w : World) (base : Nat) (hb : base ≤ w.heap.size) : Mem (w.alloc (.cells #[.int .i64 0, .int .i64 0, .string ⟨#[]⟩, .slice none 0 0] 39)) base (fun _ => 0) (.slice (some ⟨w.heap.size, 0, none⟩) 1 1) [⟨0, 0, ⟨#[]⟩, (none, 0, 0)⟩] [[]] := by
  refine ⟨⟨fun k _ => rfl, [.int .i64 0, .int .i64 0, .string ⟨#[]⟩, .slice none 0 0], ?_, ⟨rfl, fun j x hj => ?_⟩⟩, rfl, fun j c xs hc hx => ?_⟩
  · have h := World.ownsRow_lit (base := base) (e := 39) (size := 4) w #[.int .i64 0, .int .i64 0, .string ⟨#[]⟩, .slice none 0 0] 1 hb (by decide) rfl
    exact h
  · cases j with
    | zero => cases hj; exact kF_mkM _ _ _ _
    | succ j => cases hj
  · cases j with
    | zero => cases hc; cases hx; exact ⟨rfl, Kd.R_nil _ _ _ _ _⟩
    | succ j => cases hc
/-- One token of a run. -/
theorem run_at {l : List S36} {i : Int} (h0 : 0 ≤ i) (h1 : i < l.length) (st : List Fr) : run (l.drop i.toNat) st = (match stp (rd_T36 l i) st with | .error e => .error e | .ok st' => run (l.drop (i + 1).toNat) st') := by
  rw [List.drop_eq_getElem_cons (show i.toNat < l.length by omega), show (i + 1).toNat = i.toNat + 1 by omega]
  unfold rd_T36
  rw [List.getD_eq_getElem?_getD, List.getElem?_eq_getElem (show i.toNat < l.length by omega)]
  rfl
theorem info39 : (Try.prog.info? 39).map (fun i => (i.zero, i.size, i.bytes)) = some (some (.agg #[(.int .i64 0), (.int .i64 0), (.string ⟨#[]⟩), (.slice none 0 0)]), 4, 56) := by kernel_rfl
theorem stp_open {ta : Int} {ts : ByteArray} {st : List Fr} (h : st.length ≤ 64) : stp ⟨1, ta, ts⟩ st = .ok (⟨1, ta, []⟩ :: st) := by
  unfold stp
  simp only [if_true]
  rw [if_neg (by omega)]
theorem stp_deep {ta : Int} {ts : ByteArray} {st : List Fr} (h : 64 < st.length) : stp ⟨1, ta, ts⟩ st = .error (7, ta) := by
  unfold stp
  simp only [if_true]
  rw [if_pos h]
theorem stp_shut {ta : Int} {ts : ByteArray} {f g : Fr} {r : List Fr} : stp ⟨2, ta, ts⟩ (f :: g :: r) = .ok (⟨g.k, g.a, g.xs ++ [⟨f.k, f.a, ⟨#[]⟩, f.xs⟩]⟩ :: r) := rfl
theorem stp_none {ta : Int} {ts : ByteArray} {f : Fr} : stp ⟨2, ta, ts⟩ [f] = .error (2, ta) := rfl
theorem stp_else {tk ta : Int} {ts : ByteArray} {f : Fr} {r : List Fr} (h1 : tk ≠ 1) (h2 : tk ≠ 2) : stp ⟨tk, ta, ts⟩ (f :: r) = .ok (⟨f.k, f.a, f.xs ++ [⟨tk, ta, ts, []⟩]⟩ :: r) := by
  unfold stp
  simp only [if_neg h1, if_neg h2]
  rfl
theorem prs_err {l : List S36} {e : Int × Int} (h : prs l = fin (run l [⟨0, 0, []⟩])) (h2 : run l [⟨0, 0, []⟩] = .error e) : prsO l = none := by
  unfold prsO
  rw [h, h2]
  rfl
set_option maxRecDepth 100000 in
set_option maxHeartbeats 4000000 in
theorem parse_calls (W : World) (A : Option Addr) (c : Nat) (l : List S36) (hC : k36.C W A l.length l) (hl : l.length ≤ 100000) : Calls Try.prog 8 #[.slice A l.length c] W fun e w' => PRes W w' e (prsO l) ∧ Below W.heap.size W w' := by
  have CC := Aside0.mk (contains_calls W A c l hC hl)
  have HC := Aside0.mk hC
  have HL := Aside0.mk hl
  clear hC hl
  cases hbad : l.any badK with
  | true =>
    rw [hbad] at CC
    have HP := Aside0.mk (show prsO l = none by unfold prsO prs; rw [hbad]; rfl)
    clear hbad
    go_enter Try.func8, Try.ntmps8
    go_wp2_with (go_at_call 14; (refine CC.out.mono ?_); rintro e w2 ⟨rfl, hB2⟩; have HB2 := Aside0.mk hB2; clear hB2)
    go_ret2
    rw [HP.out]
    exact ⟨⟨_, _, rfl⟩, HB2.out⟩
  | false =>
    rw [hbad] at CC
    have HP := Aside0.mk (show prs l = fin (run l [⟨0, 0, []⟩]) by unfold prs; rw [hbad]; rfl)
    clear hbad
    go_enter Try.func8, Try.ntmps8
    go_wp2_with (go_at_call 14; (refine CC.out.mono ?_); rintro e w2 ⟨rfl, hB2⟩; have HC2 := Aside0.mk (Kd.C_below HC.out hB2); have HB2 := Aside0.mk hB2; clear hB2)
    go_loopg [4, 16] (l.length + 1) (fun kq v4 v16 w' => ∃ (g cap m : Nat) (i : Int) (tag : Nat → Nat) (cs : List Cf) (c0 : Cf) (xss : List (List S39)) (xs : List S39), v4 = .slice (some ⟨g, 0, none⟩) (m + 1) cap ∧ v16 = .int .i64 i ∧ 0 ≤ i ∧ i ≤ (l.length : Int) ∧ l.length + 1 ≤ kq + i.toNat ∧ m ≤ 64
      ∧ Aside0 (m = cs.length) ∧ Aside0 (run (l.drop i.toNat) (stk (cs ++ [c0]) (xss ++ [xs])) = run l [⟨0, 0, []⟩]) ∧ Aside0 (∀ ys, ys ∈ xss ++ [xs] → ys.length ≤ i.toNat) ∧ Aside0 (Mem w' W.heap.size tag (.slice (some ⟨g, 0, none⟩) (m + 1) cap) (cs ++ [c0]) (xss ++ [xs])) ∧ Aside0 (k36.C w' A l.length l) ∧ Aside0 (Below W.heap.size W w'))
    case atStart => exact ⟨w2.heap.size, 1, 0, 0, fun _ => 0, [], ⟨0, 0, ⟨#[]⟩, (none, 0, 0)⟩, [], [], rfl, rfl, by omega, by omega, by simp, by omega, ⟨rfl⟩, ⟨rfl⟩, ⟨by simp⟩, ⟨Mem.first _ _ HB2.out.size⟩, ⟨Kd.C_alloc HC2.out _⟩, ⟨below_alloc HB2.out _⟩⟩
    case round =>
      obtain ⟨g, cap, m, i, tag, cs, c0, xss, xs, rfl, rfl, h1, h2, h3, h4, HM, HRun, HLen, HMem, HCC, HBB⟩ := hrel
      cases gk with
      | zero => omega
      | succ kr =>
        by_cases hlt : i < (l.length : Int)
        · have c1 : decide (i < (l.length : Int)) = true := decide_eq_true hlt
          obtain ⟨ad, ead, x0, x1, x2⟩ := at_T36 HCC.out i h1 hlt
          cases ead
          obtain ⟨lastN, lastL, A3, c3, ec0, RL, y0, y1, y2, y3, yf, gB, gL, gC⟩ := HMem.out.last
          have em := HM.out
          rw [← em] at y0 y1 y2 y3 yf RL
          have eM : IntKind.i64.wrap ((m : Int) + 1 - 1) = (m : Int) := by rw [IntKind.wrap_i64]; omega
          have HR1 := run_at h1 hlt (stk (cs ++ [c0]) (xss ++ [xs]))
          have Q := Aside0.mk (show 0 ≤ i + 1 ∧ i + 1 ≤ (l.length : Int) ∧ l.length + 1 ≤ kr + (i + 1).toNat by omega)
          have hw : IntKind.i64.wrap (i + 1) = i + 1 := by rw [IntKind.wrap_i64]; have := HL.out; omega
          have GB := Aside0.mk (And.intro gB gL)
          have RL' := Aside0.mk RL
          have HR1' := Aside0.mk HR1
          have ec0' := Aside0.mk ec0
          have LL := Aside0.mk (And.intro lastN lastL)
          clear RL HR1 gB gL ec0 lastN lastL em
          generalize hT : rd_T36 l i = t at *
          obtain ⟨tk, ta, ts⟩ := t
          have HS := Aside0.mk (And.intro Q.out HL.out)
          have eqm : (((m : Int) + 1) > 64) = (64 ≤ (m : Int)) := by apply propext; omega
          by_cases k1 : tk = 1
          · subst k1
            go_upto_region 11 with fail
            obtain ⟨W1, hW1⟩ : ∃ W1, W1 = wr.alloc (Obj.cells #[Value.int IntKind.i64 1, Value.int IntKind.i64 ta, Value.string ts] 36) := ⟨_, rfl⟩
            have MM := Aside0.mk (show Mem W1 W.heap.size tag (.slice (some ⟨g, 0, none⟩) (m + 1) cap) (cs ++ [c0]) (xss ++ [xs]) by rw [hW1]; exact HMem.out.step (fun k hk => (below_alloc (Below.refl _ _) _).block k hk))
            have CC1 := Aside0.mk (show k36.C W1 (some ad) l.length l by rw [hW1]; exact Kd.C_alloc HCC.out _)
            have BB1 := Aside0.mk (show Below W.heap.size W W1 by rw [hW1]; exact below_alloc HBB.out _)
            have b1 : W1.cell? ⟨wr.heap.size, 1, none⟩ = some (.int .i64 ta) := by rw [hW1]; go_simp
            rw [← hW1]
            clear hW1 HMem HCC HBB x0 x1 x2 y0 y1 y2 y3 yf
            have nb := World.new_ne _ _ b1
            by_cases k2 : 64 ≤ (m : Int)
            · have c2 : decide ((64 : Int) < (m : Int) + 1) = true := decide_eq_true (by omega)
              have HN := Aside0.mk (show prsO l = none by
                have h := HR1'.out
                rw [stp_deep (by rw [stk_len (by simp; exact LL.out.2)]; simp; have := HM.out; omega), HRun.out] at h
                exact prs_err HP.out h)
              have k3 : m = 64 := by omega
              subst k3
              clear hw eM gC
              go_wp2_with fail
              go_region
              all_goals
                go_wp2_with fail
                go_ret2
                rw [HN.out]
                exact ⟨⟨_, _, rfl⟩, by repeat (first | exact BB1.out | apply below_alloc | apply pw_below_drewN | apply below_drew)⟩
            · have c2 : decide ((64 : Int) < (m : Int) + 1) = false := decide_eq_false (by omega)
              have hlen : (cs ++ [c0] ++ [(⟨1, ta, ⟨#[]⟩, (none, 0, 0)⟩ : Cf)]).length = m + 1 + 1 := by simp; exact HM.out.symm
              have HRun2 := Aside0.mk (show run (l.drop (i + 1).toNat) (stk (cs ++ [c0] ++ [(⟨1, ta, ⟨#[]⟩, (none, 0, 0)⟩ : Cf)]) (xss ++ [xs] ++ [[]])) = run l [⟨0, 0, []⟩] by
                have h := HR1'.out
                rw [HRun.out, stp_open (by rw [stk_len (by simp; exact LL.out.2)]; simp; have := HM.out; omega)] at h
                rw [stk_snoc (by simp; exact LL.out.2)]
                exact h.symm)
              have HLen2 := Aside0.mk (show ∀ ys, ys ∈ xss ++ [xs] ++ [[]] → ys.length ≤ (i + 1).toNat by
                intro ys hy
                rcases List.mem_append.1 hy with hy | hy
                · have := HLen.out ys hy; omega
                · rw [List.mem_singleton.1 hy]; exact Nat.zero_le _)
              have MT := Aside0.mk (MM.out.retag (tag' := fun k => if k < W1.heap.size then tag k else 0) (fun k hk _ => if_pos hk))
              have HL2 := Aside0.mk (show (cs ++ [c0]).length = m + 1 by simp; exact HM.out.symm)
              have HLn := Aside0.mk hlen
              have H65 := Aside0.mk h4
              have HK := Aside0.mk k2
              clear hlen MM h4 gC
              go_wp2_with (first | ((with_reducible refine gate_builtin (b := .append) (xs := #[.tmp 55, .tmp 59]) rfl ?_); at_builtin; refine Kd.R_append kF (w0 := W) W.heap.size rfl (.tmp 55) (.tmp 59) 24 39 (.agg #[(.int .i64 0), (.int .i64 0), (.string ⟨#[]⟩), (.slice none 0 0)]) 56 rfl Try.underlying24 info39 rfl (by decide) (by omega) (.slice (some ⟨g, 0, none⟩) (m + 1) cap) (cs ++ [c0]) (⟨1, ta, ⟨#[]⟩, (none, 0, 0)⟩ : Cf) [.int .i64 1, .int .i64 ta, .string ⟨#[]⟩, .slice none 0 0] (fun k => (if k < W1.heap.size then tag k else 0) = 0) (fun _ => False) rfl rfl ?aP (fun _ hk => hk.elim) ?aF ?aO ?aB ?aS ?aL ?_; (case aP => exact kF_mkM _ _ _ (⟨1, ta, ⟨#[]⟩, (none, 0, 0)⟩ : Cf)); (case aB => exact BB1.out); (case aF => exact (fun k hk => if_neg (by omega))); (case aO => exact MT.out.row); (case aS => exact BB1.out.size); (case aL => have := HL2.out; have := H65.out; omega); intro v3 w3 hR3 hB3 hg3 hat3; obtain ⟨g3, cap3, rfl, gB3, gL3, _⟩ := Kd.R_form hR3 (by have := HLn.out; omega); have HM3 := Aside0.mk (MT.out.push (c := ⟨1, ta, ⟨#[]⟩, (none, 0, 0)⟩) rfl rfl hR3 hg3); have HB3 := Aside0.mk hB3; rw [HLn.out]; clear hR3 hB3 hg3 hat3 gB3 gL3))
              go_roundg kr
              case measure => omega
              case rel => exact ⟨g3, cap3, m + 1, i + 1, fun k => if k < W1.heap.size then tag k else 0, cs ++ [c0], ⟨1, ta, ⟨#[]⟩, (none, 0, 0)⟩, xss ++ [xs], [], rfl, (by first | rfl | (rw [← hw]; rfl) | (simp; done) | (simp [*]; done)), Q.out.1, Q.out.2.1, Q.out.2.2, by have := HK.out; omega, ⟨HL2.out.symm⟩, HRun2, HLen2, ⟨by rw [← HLn.out]; exact HM3.out⟩, ⟨Kd.C_below HC.out HB3.out⟩, HB3⟩
          · by_cases k2 : tk = 2
            · subst k2
              rcases Nat.eq_zero_or_pos m with k3 | k3
              · subst k3
                have HN := Aside0.mk (show prsO l = none by
                  have h := HR1'.out
                  have e1 : cs = [] := List.length_eq_zero_iff.1 HM.out.symm
                  have e2 : xss = [] := List.length_eq_zero_iff.1 (by rw [← LL.out.2]; exact HM.out.symm)
                  rw [HRun.out, stk_snoc LL.out.2, e1, e2] at h
                  exact prs_err HP.out h)
                clear hw eM gC
                go_wp2_with fail
                go_region
                all_goals
                  go_wp2_with fail
                  go_ret2
                  rw [HN.out]
                  exact ⟨⟨_, _, rfl⟩, by repeat (first | exact HBB.out | apply below_alloc | apply pw_below_drewN | apply below_drew)⟩
              · obtain ⟨m1, rfl⟩ : ∃ m1, m = m1 + 1 := ⟨m - 1, by omega⟩
                obtain ⟨W1, hW1⟩ : ∃ W1, W1 = wr.alloc (Obj.cells #[Value.int IntKind.i64 2, Value.int IntKind.i64 ta, Value.string ts] 36) := ⟨_, rfl⟩
                have hB1 : Below wr.heap.size wr W1 := by rw [hW1]; exact below_alloc (Below.refl _ _) _
                have MM := Aside0.mk (HMem.out.step (fun k hk => hB1.block k hk))
                have BB1 := Aside0.mk (HBB.out.trans (hB1.mono HBB.out.size))
                have y0 := pw_cell_below hB1 y0
                have y1 := pw_cell_below hB1 y1
                have y2 := pw_cell_below hB1 y2
                have y3 := pw_cell_below hB1 y3
                have nb := World.new_ne _ _ y0
                have RL1 := Aside0.mk (Kd.R_below RL'.out hB1)
                clear RL'
                go_upto_region 17 with fail
                rw [← hW1]
                clear hW1 hB1 HMem HCC HBB x0 x1 x2 
                go_upto_region 19 with fail
                obtain ⟨W2, hW2⟩ : ∃ W2, W2 = W1.alloc (Obj.cells #[Value.int IntKind.i64 c0.k, Value.int IntKind.i64 c0.a, Value.string ⟨#[]⟩, Value.slice A3 xs.length c3] 39) := ⟨_, rfl⟩
                rw [← hW2]
                have hB2 : Below W1.heap.size W1 W2 := by rw [hW2]; exact below_alloc (Below.refl _ _) _
                have z0 : W2.cell? ⟨W1.heap.size, 0, none⟩ = some (.int .i64 c0.k) := by rw [hW2]; go_simp
                have z1 : W2.cell? ⟨W1.heap.size, 1, none⟩ = some (.int .i64 c0.a) := by rw [hW2]; go_simp
                have z2 : W2.cell? ⟨W1.heap.size, 2, none⟩ = some (.string ⟨#[]⟩) := by rw [hW2]; go_simp
                have z3 : W2.cell? ⟨W1.heap.size, 3, none⟩ = some (.slice A3 xs.length c3) := by rw [hW2]; go_simp
                clear hW2 y0 y1 y2 y3 nb
                go_wp2_with fail
                go_region
                · obtain ⟨W3, hW3⟩ : ∃ W3, W3 = (W2.alloc (Obj.cells #[Value.bool false] 4)).drew := ⟨_, rfl⟩
                  rw [← hW3]
                  have hB3 : Below W2.heap.size W2 W3 := by rw [hW3]; exact below_drew (below_alloc (Below.refl _ _) _)
                  have hB13 : Below W1.heap.size W1 W3 := hB2.trans (hB3.mono hB2.size)
                  have z0 := pw_cell_below hB3 z0
                  have z1 := pw_cell_below hB3 z1
                  have z2 := pw_cell_below hB3 z2
                  have z3 := pw_cell_below hB3 z3
                  clear hW3
                  obtain ⟨cs1, c1', hcs, hcl⟩ := snoc_of HM.out.symm
                  obtain ⟨xss1, xs1, hxs, hxl⟩ := snoc_of (LL.out.2.symm.trans HM.out.symm)
                  subst hcs
                  subst hxs
                  have hPop := MM.out.pop
                  have e1 : (cs1 ++ [c1']).length = m1 + 1 := HM.out.symm
                  rw [e1] at hPop
                  have HMT := Aside0.mk ((hPop.1.step (fun k hk => hB13.block k hk)).retag (tag' := fun k => if k < W3.heap.size then (if tag k = m1 + 1 + 1 then m1 + 1 else tag k) else m1 + 1) (fun k hk ht => by
                    have h1 : tag k ≤ m1 + 1 := by rw [← e1]; exact ht
                    show (if k < W3.heap.size then (if tag k = m1 + 1 + 1 then m1 + 1 else tag k) else m1 + 1) = tag k
                    rw [if_pos hk, if_neg (by omega)]))
                  have HRC := Aside0.mk (Kd.R_step (Kd.R_mono (Kd.R_bound RL1.out) (ok' := fun k => tag k = m1 + 1 + 1 ∧ k < W1.heap.size) (fun k hk => ⟨hk.1, hk.2.2.1⟩)) (w1 := W3) (fun k _ hk => hB13.block k hk))
                  obtain ⟨zN, zL, A4, c4, ec4, RT, zy0, zy1, zy2, y3, yf, zB, gL1, zC⟩ := HMT.out.last
                  rw [hcl] at RT y3 yf
                  have HRT := Aside0.mk RT
                  have BB3 := Aside0.mk (BB1.out.trans (hB13.mono BB1.out.size))
                  have HP1 := Aside0.mk (show ∀ k, (Value.slice A4 xs1.length c4).ownBlock = some k → tag k = m1 + 1 by
                    intro k hk
                    have q := (hPop.1.each cs1.length c1' xs1 (get_snoc _ _) (by rw [hcl, ← hxl]; exact get_snoc _ _)).2
                    have hv : c1'.v = .slice A4 xs1.length c4 := by rw [ec4]; rfl
                    rw [hv, hcl] at q
                    exact q.1 k hk)
                  have EC := Aside0.mk (And.intro ec4 (And.intro hcl hxl))
                  have HGT := Aside0.mk (show (if g < W3.heap.size then (if tag g = m1 + 1 + 1 then m1 + 1 else tag g) else m1 + 1) = 0 from HMT.out.row.1 g (by simp [Value.ownBlock]))
                  have HX13 := Aside0.mk (And.intro hB13.size gL1)
                  have n0l : W1.heap.size < W3.heap.size := World.block_lt_of_cell? W3 _ z0
                  have n3l : g < W3.heap.size := World.block_lt_of_cell? W3 _ y3
                  have n9 : g ≠ W1.heap.size := by have := MM.out.row; have := Kd.R_lt this g (by simp [Value.ownBlock]); omega
                  have n10 : W1.heap.size ≠ g := fun e => n9 e.symm
                  have HLo := Aside0.mk (show ∀ k, (Value.slice A4 xs1.length c4).ownBlock = some k → k < W1.heap.size by
                    intro k hk
                    have q := (hPop.1.each cs1.length c1' xs1 (get_snoc _ _) (by rw [hcl, ← hxl]; exact get_snoc _ _)).2
                    have hv : c1'.v = .slice A4 xs1.length c4 := by rw [ec4]; rfl
                    rw [hv] at q
                    exact Kd.R_lt q k hk)
                  have HOK := Aside0.mk (show ∀ k, (tag k = m1 + 1 + 1 ∧ k < W1.heap.size) → (if k < W3.heap.size then (if tag k = m1 + 1 + 1 then m1 + 1 else tag k) else m1 + 1) = m1 + 1 ∧ some k ≠ (Value.slice A4 xs1.length c4).ownBlock by
                    intro k hk
                    have hs := HX13.out.1
                    refine ⟨by rw [if_pos (by omega), if_pos hk.1], fun e => ?_⟩
                    have q := (HP1.out k e.symm)
                    omega)
                  have HLx := Aside0.mk (show xs1.length ≤ 100000 by have := HLen.out xs1 (by simp); have := HS.out; omega)
                  have lt1 : ((xs1.length : Int) < (xs1.length : Int) + 1) = True := eq_true (by omega)
                  have lt2 : ((m1 : Int) < (m1 : Int) + 1) = True := eq_true (by omega)
                  have lt3 : (0 : Int) ≤ (m1 : Int) := by omega
                  have eM2 : IntKind.i64.wrap (m1 : Int) = (m1 : Int) := by rw [IntKind.wrap_i64]; omega
                  have eM1 : IntKind.i64.wrap ((m1 : Int) + 1 - 1) = (m1 : Int) := by rw [IntKind.wrap_i64]; omega
                  have HRunB := Aside0.mk (And.intro HRun.out HR1'.out)
                  have h4' := Aside0.mk h4
                  clear zN zL zy0 zy1 zy2 zB gL1 zC RT hPop e1 ec4 hcl hxl h4 HM hB13 hB3 hB2 LL eM gC k3 HRun HR1' RL1 MM BB1
                  go_wp2_with fail
                  let T1 : World → Prop := fun w' => w'.cell? ⟨W1.heap.size, 0, none⟩ = some (.int .i64 c0.k) ∧ w'.cell? ⟨W1.heap.size, 1, none⟩ = some (.int .i64 c0.a) ∧ w'.cell? ⟨W1.heap.size, 2, none⟩ = some (.string ⟨#[]⟩) ∧ w'.cell? ⟨W1.heap.size, 3, none⟩ = some (.slice A3 xs.length c3)
                  let Y1 : World → Prop := fun w' => w'.cell? ⟨g, m1 * 4 + 3, none⟩ = some (.slice A4 xs1.length c4)
                  have TT : Aside0 (T1 W3.drew) := ⟨⟨z0, z1, z2, z3⟩⟩
                  have YY : Aside0 (Y1 W3.drew) := ⟨y3⟩
                  refine wp_region_heldP (fun j w' => T1 w' ∧ (j = 12 → Y1 w')) (by kernel_rfl) ?_
                  simp only [List.size_toArray, List.length_cons, List.length_nil, Nat.zero_add, Nat.reduceAdd, Array.replicate, List.replicate]
                  refine wpAnyP_take' T1 (fun _ => true) 0 (.slice (some ⟨g, 0, none⟩) (m1 + 1) cap) rfl (by kernel_rfl) (by kernel_rfl) (by kernel_rfl) (fun _ _ _ h => h) (by kernel_rfl) (fun _ _ _ h => h.1) (fun _ h => ⟨h, fun hj => absurd hj (by decide)⟩) (by rfl) (by intro w hSw; (try dsimp only [T1] at hSw); go_simp) TT.out ?_
                  simp only [Act.put, List.setIfInBounds_toArray, List.set_cons_zero, List.set_cons_succ]
                  refine wpAnyP_take' T1 (fun _ => true) 1 (.slice (some ⟨g, 0, none⟩) (m1 + 1) cap) rfl (by kernel_rfl) (by kernel_rfl) (by kernel_rfl) (fun _ _ _ h => h) (by kernel_rfl) (fun _ _ _ h => h.1) (fun _ h => ⟨h, fun hj => absurd hj (by decide)⟩) (by rfl) (by intro w hSw; (try dsimp only [T1] at hSw); go_simp) TT.out ?_
                  simp only [Act.put, List.setIfInBounds_toArray, List.set_cons_zero, List.set_cons_succ]
                  refine wpAnyP_take' T1 (fun _ => true) 2 (.int .i64 ((m1 : Int) + 1)) rfl (by kernel_rfl) (by kernel_rfl) (by kernel_rfl) (fun _ _ _ h => h) (by kernel_rfl) (fun _ _ _ h => h.1) (fun _ h => ⟨h, fun hj => absurd hj (by decide)⟩) (by rfl) (by intro w hSw; (try dsimp only [T1] at hSw); go_simp) TT.out ?_
                  simp only [Act.put, List.setIfInBounds_toArray, List.set_cons_zero, List.set_cons_succ]
                  refine wpAnyP_take' T1 (fun _ => true) 3 (.int .i64 (m1 : Int)) rfl (by kernel_rfl) (by kernel_rfl) (by kernel_rfl) (fun _ _ _ h => h) (by kernel_rfl) (fun _ _ _ h => h.1) (fun _ h => ⟨h, fun hj => absurd hj (by decide)⟩) (by rfl) (by intro w hSw; (try dsimp only [T1] at hSw); go_simp) TT.out ?_
                  simp only [Act.put, List.setIfInBounds_toArray, List.set_cons_zero, List.set_cons_succ]
                  refine wpAnyP_take' T1 (fun _ => true) 4 (.slice (some ⟨g, 0, none⟩) (m1 + 1) cap) rfl (by kernel_rfl) (by kernel_rfl) (by kernel_rfl) (fun _ _ _ h => h) (by kernel_rfl) (fun _ _ _ h => h.1) (fun _ h => ⟨h, fun hj => absurd hj (by decide)⟩) (by rfl) (by intro w hSw; (try dsimp only [T1] at hSw); go_simp) TT.out ?_
                  simp only [Act.put, List.setIfInBounds_toArray, List.set_cons_zero, List.set_cons_succ]
                  refine wpAnyP_take' T1 (fun _ => true) 5 (.slice (some ⟨g, 0, none⟩) (m1 + 1) cap) rfl (by kernel_rfl) (by kernel_rfl) (by kernel_rfl) (fun _ _ _ h => h) (by kernel_rfl) (fun _ _ _ h => h.1) (fun _ h => ⟨h, fun hj => absurd hj (by decide)⟩) (by rfl) (by intro w hSw; (try dsimp only [T1] at hSw); go_simp) TT.out ?_
                  simp only [Act.put, List.setIfInBounds_toArray, List.set_cons_zero, List.set_cons_succ]
                  refine wpAnyP_take' T1 (fun _ => true) 6 (.int .i64 ((m1 : Int) + 1)) rfl (by kernel_rfl) (by kernel_rfl) (by kernel_rfl) (fun _ _ _ h => h) (by kernel_rfl) (fun _ _ _ h => h.1) (fun _ h => ⟨h, fun hj => absurd hj (by decide)⟩) (by rfl) (by intro w hSw; (try dsimp only [T1] at hSw); go_simp) TT.out ?_
                  simp only [Act.put, List.setIfInBounds_toArray, List.set_cons_zero, List.set_cons_succ]
                  refine wpAnyP_take' T1 (fun _ => true) 7 (.int .i64 (m1 : Int)) rfl (by kernel_rfl) (by kernel_rfl) (by kernel_rfl) (fun _ _ _ h => h) (by kernel_rfl) (fun _ _ _ h => h.1) (fun _ h => ⟨h, fun hj => absurd hj (by decide)⟩) (by rfl) (by intro w hSw; (try dsimp only [T1] at hSw); go_simp) TT.out ?_
                  simp only [Act.put, List.setIfInBounds_toArray, List.set_cons_zero, List.set_cons_succ]
                  refine wpAnyP_take' T1 (fun _ => true) 8 (.pointer (some ⟨g, m1 * 4, none⟩)) rfl (by kernel_rfl) (by kernel_rfl) (by kernel_rfl) (fun _ _ _ h => h) (by kernel_rfl) (fun _ _ _ h => h.1) (fun _ h => ⟨h, fun hj => absurd hj (by decide)⟩) (by rfl) (by intro w hSw; (try dsimp only [T1] at hSw); go_simp) TT.out ?_
                  simp only [Act.put, List.setIfInBounds_toArray, List.set_cons_zero, List.set_cons_succ]
                  refine wpAnyP_take' T1 (fun _ => true) 9 (.pointer (some ⟨g, m1 * 4 + 3, none⟩)) rfl (by kernel_rfl) (by kernel_rfl) (by kernel_rfl) (fun _ _ _ h => h) (by kernel_rfl) (fun _ _ _ h => h.1) (fun _ h => ⟨h, fun hj => absurd hj (by decide)⟩) (by rfl) (by intro w hSw; (try dsimp only [T1] at hSw); go_simp) TT.out ?_
                  simp only [Act.put, List.setIfInBounds_toArray, List.set_cons_zero, List.set_cons_succ]
                  refine wpAnyP_take' T1 (fun _ => true) 11 (.agg #[.int .i64 c0.k, .int .i64 c0.a, .string ⟨#[]⟩, .slice A3 xs.length c3]) rfl (by kernel_rfl) (by kernel_rfl) (by kernel_rfl) (fun _ _ _ h => h) (by kernel_rfl) (fun _ _ _ h => h.1) (fun _ h => ⟨h, fun hj => absurd hj (by decide)⟩) (by rfl) (by intro w hSw; (try dsimp only [T1] at hSw); go_simp) TT.out ?_
                  simp only [Act.put, List.setIfInBounds_toArray, List.set_cons_zero, List.set_cons_succ]
                  refine wpAnyP_take' (fun w' => T1 w' ∧ Y1 w') (fun j => j == 12) 10 (.slice A4 xs1.length c4) rfl (by kernel_rfl) (by kernel_rfl) (by kernel_rfl) (fun _ _ _ h => h) (by kernel_rfl) (fun j hj _ h => ⟨h.1, h.2 (eq_of_beq hj)⟩) (fun _ h => ⟨h.1, fun hj => absurd hj (by decide)⟩) (by rfl) (by intro w hSw; (try dsimp only [T1, Y1] at hSw); go_simp) ⟨TT.out, YY.out⟩ ?_
                  simp only [Act.put, List.setIfInBounds_toArray, List.set_cons_zero, List.set_cons_succ]
                  refine wpAnyP_one (by kernel_rfl) (wpOp_run (i := 12) rfl (fun K12 hK12 => ?_))
                  go_simp
                  refine hK12.out _ _ ⟨⟨⟨?_, ?_, ?_, ?_⟩, fun _ => ?_⟩, ?_⟩
                  · go_simp
                  · go_simp
                  · go_simp
                  · go_simp
                  · (try dsimp only [Y1]); go_simp
                  clear hK12 K12
                  simp only [Act.put, List.setIfInBounds_toArray, List.set_cons_zero, List.set_cons_succ]
                  refine wpAnyP_one (by kernel_rfl) (wpOp_run (i := 13) rfl (fun K13 hK13 => ?_))
                  refine Kd.R_append_step k39 (w0 := W) W.heap.size (by rfl) (.tmp 110) (.tmp 112) 24 39 (.agg #[(.int .i64 0), (.int .i64 0), (.string ⟨#[]⟩), (.slice none 0 0)]) 56 rfl Try.underlying24 info39 rfl (by decide) (by decide) (.slice A4 xs1.length c4) xs1 ⟨c0.k, c0.a, ⟨#[]⟩, xs⟩ [.int .i64 c0.k, .int .i64 c0.a, .string ⟨#[]⟩, .slice A3 xs.length c3] (fun k => (if k < W3.heap.size then (if tag k = m1 + 1 + 1 then m1 + 1 else tag k) else m1 + 1) = m1 + 1) (fun k => tag k = m1 + 1 + 1 ∧ k < W1.heap.size) rfl (by rfl) (k39_mkM _ _ _ ⟨c0.k, c0.a, ⟨#[]⟩, xs⟩ (Kd.R_drew HRC.out)) (fun k hk => HOK.out k hk) (fun k hk => if_neg (by have hk2 : W3.heap.size ≤ k := hk; omega)) (Kd.R_drew HRT.out) (below_drew BB3.out) BB3.out.size (by have := HLx.out; omega) ?_
                  rintro v3 w3 hR3 hB3 hg3 hat3
                  obtain ⟨g5, cap5, rfl, g5B, g5L, _⟩ := Kd.R_form hR3 (by simp)
                  rw [List.length_append, List.length_singleton] at hR3 ⊢
                  obtain ⟨zN5, t5, zB5, zL5, ⟨u5, s0, s1, s2, s3⟩, ⟨f0, f1, f2, f3⟩, seg5⟩ := last_z hR3
                  have bg : w3.heap[g]? = W3.drew.heap[g]? := hg3.block g HX13.out.2 (fun e => by have := HRT.out.1 g e.symm; have := HGT.out; omega)
                  have y4 : w3.cell? ⟨g, m1 * 4 + 3, none⟩ = some (.slice A4 xs1.length c4) := (World.cell?_of_block (a := ⟨g, m1 * 4 + 3, none⟩) bg).trans y3
                  have yf4 : w3.frozen? ⟨g, m1 * 4 + 3, none⟩ = false := (World.frozen?_of_block (a := ⟨g, m1 * 4 + 3, none⟩) bg).trans yf
                  have bb : w3.heap[W1.heap.size]? = W3.drew.heap[W1.heap.size]? := hg3.block W1.heap.size (World.block_lt_of_cell? W3 _ z0) (fun e => by have := HLo.out _ e.symm; omega)
                  have b4 : w3.cell? ⟨W1.heap.size, 0, none⟩ = some (.int .i64 c0.k) := (World.cell?_of_block (a := ⟨W1.heap.size, 0, none⟩) bb).trans z0
                  have b5 : w3.cell? ⟨W1.heap.size, 1, none⟩ = some (.int .i64 c0.a) := (World.cell?_of_block (a := ⟨W1.heap.size, 1, none⟩) bb).trans z1
                  have b6 : w3.cell? ⟨W1.heap.size, 2, none⟩ = some (.string ⟨#[]⟩) := (World.cell?_of_block (a := ⟨W1.heap.size, 2, none⟩) bb).trans z2
                  have b7 : w3.cell? ⟨W1.heap.size, 3, none⟩ = some (.slice A3 xs.length c3) := (World.cell?_of_block (a := ⟨W1.heap.size, 3, none⟩) bb).trans z3
                  have n5 : g5 ≠ g := by intro e; rw [e] at t5; have := HGT.out; omega
                  have n6 : g ≠ g5 := fun e => n5 e.symm
                  have HR5 := Aside0.mk hR3
                  have HB5 := Aside0.mk hB3
                  have HG5 := Aside0.mk hg3
                  have HA5 := Aside0.mk hat3
                  have g5Bx := Aside0.mk zB5
                  have HNG := Aside0.mk n6
                  have HRC3 := Aside0.mk (Kd.R_grown (Kd.R_drew HRC.out) hg3 (fun k hk e => by
                    have q := HRT.out.1 k e.symm
                    have q2 : (if k < W3.heap.size then (if tag k = m1 + 1 + 1 then m1 + 1 else tag k) else m1 + 1) = m1 + 1 := q
                    exact (HOK.out k hk).2 e))
                  clear bb seg5 hR3 hB3 hg3 hat3 t5 zN5 zB5 zL5 g5B g5L bg
                  refine hK13.out _ _ ⟨⟨⟨b4, b5, b6, b7⟩, fun hj => absurd hj (by decide)⟩, ?_⟩
                  clear hK13 K13
                  have TT3 : Aside0 (T1 w3) := ⟨⟨b4, b5, b6, b7⟩⟩
                  simp only [Act.put, List.setIfInBounds_toArray, List.set_cons_zero, List.set_cons_succ]
                  refine wpAnyP_take' T1 (fun _ => true) 14 (.pointer (some ⟨g, m1 * 4, none⟩)) rfl (by kernel_rfl) (by kernel_rfl) (by kernel_rfl) (fun _ _ _ h => h) (by kernel_rfl) (fun _ _ _ h => h.1) (fun _ h => ⟨h, fun hj => absurd hj (by decide)⟩) (by rfl) (by intro w hSw; (try dsimp only [T1] at hSw); go_simp) TT3.out ?_
                  simp only [Act.put, List.setIfInBounds_toArray, List.set_cons_zero, List.set_cons_succ]
                  refine wpAnyP_take' T1 (fun _ => true) 15 (.pointer (some ⟨g, m1 * 4 + 3, none⟩)) rfl (by kernel_rfl) (by kernel_rfl) (by kernel_rfl) (fun _ _ _ h => h) (by kernel_rfl) (fun _ _ _ h => h.1) (fun _ h => ⟨h, fun hj => absurd hj (by decide)⟩) (by rfl) (by intro w hSw; (try dsimp only [T1] at hSw); go_simp) TT3.out ?_
                  simp only [Act.put, List.setIfInBounds_toArray, List.set_cons_zero, List.set_cons_succ]
                  refine wpAnyP_one (i := 16) (by kernel_rfl) (wpOp_run (i := 16) rfl (fun K18 hK18 => ?_))
                  go_simp
                  refine hK18.out _ _ ⟨⟨⟨?_, ?_, ?_, ?_⟩, fun hj => absurd hj (by decide)⟩, ?_⟩
                  · go_simp
                  · go_simp
                  · go_simp
                  · go_simp
                  clear hK18 K18
                  simp only [Act.put, List.setIfInBounds_toArray, List.set_cons_zero, List.set_cons_succ]
                  refine wpAnyP_done (by kernel_rfl) ?_ _
                  obtain ⟨ec4, hcl, hxl⟩ := EC.out
                  have HX := Aside0.mk (HMT.out.step (w1 := W3.drew) (fun k _ => rfl))
                  have HV := Aside0.mk (show c1'.v = .slice A4 xs1.length c4 by rw [ec4]; rfl)
                  have M2 := Aside0.mk (HX.out.app0 (hcl.trans hxl.symm) HV.out (x := ⟨c0.k, c0.a, ⟨#[]⟩, xs⟩) (l := (some ⟨g5, 0, none⟩, xs1.length + 1, cap5)) (by rw [hcl]; exact HR5.out) HG5.out)
                  rw [hcl] at M2
                  have HRun2 := Aside0.mk (show run (l.drop (i + 1).toNat) (stk (cs1 ++ [(⟨c1'.k, c1'.a, c1'.s, (some ⟨g5, 0, none⟩, xs1.length + 1, cap5)⟩ : Cf)]) (xss1 ++ [xs1 ++ [⟨c0.k, c0.a, ⟨#[]⟩, xs⟩]])) = run l [⟨0, 0, []⟩] by
                    obtain ⟨h0, h⟩ := HRunB.out
                    rw [h0, stk_snoc (by simp [hcl, hxl]), stk_snoc (hcl.trans hxl.symm), stp_shut] at h
                    rw [stk_snoc (hcl.trans hxl.symm)]
                    exact h.symm)
                  have HLen2 := Aside0.mk (show ∀ ys, ys ∈ xss1 ++ [xs1 ++ [⟨c0.k, c0.a, ⟨#[]⟩, xs⟩]] → ys.length ≤ (i + 1).toNat by
                    intro ys hy
                    rcases List.mem_append.1 hy with hy | hy
                    · have := HLen.out ys (List.mem_append_left _ (List.mem_append_left _ hy)); omega
                    · rw [List.mem_singleton.1 hy]; have := HLen.out xs1 (by simp); simp; omega)
                  have HBg := Aside0.mk (And.intro GB.out.1 g5Bx.out)
                  have HCL := Aside0.mk hcl.symm
                  clear HX HV HR5 HG5 HA5 ec4 hcl hxl
                  go_wp2_with fail
                  go_roundg kr
                  case measure => omega
                  case rel => exact ⟨g, cap, m1, i + 1, fun k => if k < W3.heap.size then (if tag k = m1 + 1 + 1 then m1 + 1 else tag k) else m1 + 1, cs1, ⟨c1'.k, c1'.a, c1'.s, (some ⟨g5, 0, none⟩, xs1.length + 1, cap5)⟩, xss1, xs1 ++ [⟨c0.k, c0.a, ⟨#[]⟩, xs⟩], rfl, (by first | rfl | (rw [← hw]; rfl) | (simp; done) | (simp [*]; done)), Q.out.1, Q.out.2.1, Q.out.2.2, by have := h4'.out; omega, HCL, HRun2, HLen2, ⟨by first | (with_reducible exact M2.out) | exact M2.out⟩, ⟨Kd.C_below HC.out (by repeat (first | exact HB5.out | refine Below.setCell ?_ HBg.out.1 _ | refine Below.setCell ?_ HBg.out.2 _))⟩, ⟨by repeat (first | exact HB5.out | refine Below.setCell ?_ HBg.out.1 _ | refine Below.setCell ?_ HBg.out.2 _)⟩⟩
                · obtain ⟨W3, hW3⟩ : ∃ W3, W3 = (W2.alloc (Obj.cells #[Value.bool true] 4)).drew := ⟨_, rfl⟩
                  rw [← hW3]
                  have hB3 : Below W2.heap.size W2 W3 := by rw [hW3]; exact below_drew (below_alloc (Below.refl _ _) _)
                  have hB13 : Below W1.heap.size W1 W3 := hB2.trans (hB3.mono hB2.size)
                  have z0 := pw_cell_below hB3 z0
                  have z1 := pw_cell_below hB3 z1
                  have z2 := pw_cell_below hB3 z2
                  have z3 := pw_cell_below hB3 z3
                  clear hW3
                  obtain ⟨cs1, c1', hcs, hcl⟩ := snoc_of HM.out.symm
                  obtain ⟨xss1, xs1, hxs, hxl⟩ := snoc_of (LL.out.2.symm.trans HM.out.symm)
                  subst hcs
                  subst hxs
                  have hPop := MM.out.pop
                  have e1 : (cs1 ++ [c1']).length = m1 + 1 := HM.out.symm
                  rw [e1] at hPop
                  have HMT := Aside0.mk ((hPop.1.step (fun k hk => hB13.block k hk)).retag (tag' := fun k => if k < W3.heap.size then (if tag k = m1 + 1 + 1 then m1 + 1 else tag k) else m1 + 1) (fun k hk ht => by
                    have h1 : tag k ≤ m1 + 1 := by rw [← e1]; exact ht
                    show (if k < W3.heap.size then (if tag k = m1 + 1 + 1 then m1 + 1 else tag k) else m1 + 1) = tag k
                    rw [if_pos hk, if_neg (by omega)]))
                  have HRC := Aside0.mk (Kd.R_step (Kd.R_mono (Kd.R_bound RL1.out) (ok' := fun k => tag k = m1 + 1 + 1 ∧ k < W1.heap.size) (fun k hk => ⟨hk.1, hk.2.2.1⟩)) (w1 := W3) (fun k _ hk => hB13.block k hk))
                  obtain ⟨zN, zL, A4, c4, ec4, RT, zy0, zy1, zy2, y3, yf, zB, gL1, zC⟩ := HMT.out.last
                  rw [hcl] at RT y3 yf
                  have HRT := Aside0.mk RT
                  have BB3 := Aside0.mk (BB1.out.trans (hB13.mono BB1.out.size))
                  have HP1 := Aside0.mk (show ∀ k, (Value.slice A4 xs1.length c4).ownBlock = some k → tag k = m1 + 1 by
                    intro k hk
                    have q := (hPop.1.each cs1.length c1' xs1 (get_snoc _ _) (by rw [hcl, ← hxl]; exact get_snoc _ _)).2
                    have hv : c1'.v = .slice A4 xs1.length c4 := by rw [ec4]; rfl
                    rw [hv, hcl] at q
                    exact q.1 k hk)
                  have EC := Aside0.mk (And.intro ec4 (And.intro hcl hxl))
                  have HGT := Aside0.mk (show (if g < W3.heap.size then (if tag g = m1 + 1 + 1 then m1 + 1 else tag g) else m1 + 1) = 0 from HMT.out.row.1 g (by simp [Value.ownBlock]))
                  have HX13 := Aside0.mk (And.intro hB13.size gL1)
                  have n0l : W1.heap.size < W3.heap.size := World.block_lt_of_cell? W3 _ z0
                  have n3l : g < W3.heap.size := World.block_lt_of_cell? W3 _ y3
                  have n9 : g ≠ W1.heap.size := by have := MM.out.row; have := Kd.R_lt this g (by simp [Value.ownBlock]); omega
                  have n10 : W1.heap.size ≠ g := fun e => n9 e.symm
                  have HLo := Aside0.mk (show ∀ k, (Value.slice A4 xs1.length c4).ownBlock = some k → k < W1.heap.size by
                    intro k hk
                    have q := (hPop.1.each cs1.length c1' xs1 (get_snoc _ _) (by rw [hcl, ← hxl]; exact get_snoc _ _)).2
                    have hv : c1'.v = .slice A4 xs1.length c4 := by rw [ec4]; rfl
                    rw [hv] at q
                    exact Kd.R_lt q k hk)
                  have HOK := Aside0.mk (show ∀ k, (tag k = m1 + 1 + 1 ∧ k < W1.heap.size) → (if k < W3.heap.size then (if tag k = m1 + 1 + 1 then m1 + 1 else tag k) else m1 + 1) = m1 + 1 ∧ some k ≠ (Value.slice A4 xs1.length c4).ownBlock by
                    intro k hk
                    have hs := HX13.out.1
                    refine ⟨by rw [if_pos (by omega), if_pos hk.1], fun e => ?_⟩
                    have q := (HP1.out k e.symm)
                    omega)
                  have HLx := Aside0.mk (show xs1.length ≤ 100000 by have := HLen.out xs1 (by simp); have := HS.out; omega)
                  have lt1 : ((xs1.length : Int) < (xs1.length : Int) + 1) = True := eq_true (by omega)
                  have lt2 : ((m1 : Int) < (m1 : Int) + 1) = True := eq_true (by omega)
                  have lt3 : (0 : Int) ≤ (m1 : Int) := by omega
                  have eM2 : IntKind.i64.wrap (m1 : Int) = (m1 : Int) := by rw [IntKind.wrap_i64]; omega
                  have eM1 : IntKind.i64.wrap ((m1 : Int) + 1 - 1) = (m1 : Int) := by rw [IntKind.wrap_i64]; omega
                  have HRunB := Aside0.mk (And.intro HRun.out HR1'.out)
                  have h4' := Aside0.mk h4
                  clear zN zL zy0 zy1 zy2 zB gL1 zC RT hPop e1 ec4 hcl hxl h4 HM hB13 hB3 hB2 LL eM gC k3 HRun HR1' RL1 MM BB1
                  go_wp2_with fail
                  let T1 : World → Prop := fun w' => w'.cell? ⟨W1.heap.size, 0, none⟩ = some (.int .i64 c0.k) ∧ w'.cell? ⟨W1.heap.size, 1, none⟩ = some (.int .i64 c0.a) ∧ w'.cell? ⟨W1.heap.size, 2, none⟩ = some (.string ⟨#[]⟩) ∧ w'.cell? ⟨W1.heap.size, 3, none⟩ = some (.slice A3 xs.length c3)
                  let Y1 : World → Prop := fun w' => w'.cell? ⟨g, m1 * 4 + 3, none⟩ = some (.slice A4 xs1.length c4)
                  have TT : Aside0 (T1 W3.drew) := ⟨⟨z0, z1, z2, z3⟩⟩
                  have YY : Aside0 (Y1 W3.drew) := ⟨y3⟩
                  refine wp_region_heldP (fun j w' => T1 w' ∧ (j = 13 → Y1 w')) (by kernel_rfl) ?_
                  simp only [List.size_toArray, List.length_cons, List.length_nil, Nat.zero_add, Nat.reduceAdd, Array.replicate, List.replicate]
                  refine wpAnyP_take' T1 (fun _ => true) 0 (.slice (some ⟨g, 0, none⟩) (m1 + 1) cap) rfl (by kernel_rfl) (by kernel_rfl) (by kernel_rfl) (fun _ _ _ h => h) (by kernel_rfl) (fun _ _ _ h => h.1) (fun _ h => ⟨h, fun hj => absurd hj (by decide)⟩) (by rfl) (by intro w hSw; (try dsimp only [T1] at hSw); go_simp) TT.out ?_
                  simp only [Act.put, List.setIfInBounds_toArray, List.set_cons_zero, List.set_cons_succ]
                  refine wpAnyP_take' T1 (fun _ => true) 1 (.slice (some ⟨g, 0, none⟩) (m1 + 1) cap) rfl (by kernel_rfl) (by kernel_rfl) (by kernel_rfl) (fun _ _ _ h => h) (by kernel_rfl) (fun _ _ _ h => h.1) (fun _ h => ⟨h, fun hj => absurd hj (by decide)⟩) (by rfl) (by intro w hSw; (try dsimp only [T1] at hSw); go_simp) TT.out ?_
                  simp only [Act.put, List.setIfInBounds_toArray, List.set_cons_zero, List.set_cons_succ]
                  refine wpAnyP_take' T1 (fun _ => true) 2 (.int .i64 ((m1 : Int) + 1)) rfl (by kernel_rfl) (by kernel_rfl) (by kernel_rfl) (fun _ _ _ h => h) (by kernel_rfl) (fun _ _ _ h => h.1) (fun _ h => ⟨h, fun hj => absurd hj (by decide)⟩) (by rfl) (by intro w hSw; (try dsimp only [T1] at hSw); go_simp) TT.out ?_
                  simp only [Act.put, List.setIfInBounds_toArray, List.set_cons_zero, List.set_cons_succ]
                  refine wpAnyP_take' T1 (fun _ => true) 3 (.int .i64 (m1 : Int)) rfl (by kernel_rfl) (by kernel_rfl) (by kernel_rfl) (fun _ _ _ h => h) (by kernel_rfl) (fun _ _ _ h => h.1) (fun _ h => ⟨h, fun hj => absurd hj (by decide)⟩) (by rfl) (by intro w hSw; (try dsimp only [T1] at hSw); go_simp) TT.out ?_
                  simp only [Act.put, List.setIfInBounds_toArray, List.set_cons_zero, List.set_cons_succ]
                  refine wpAnyP_take' T1 (fun _ => true) 4 (.slice (some ⟨g, 0, none⟩) (m1 + 1) cap) rfl (by kernel_rfl) (by kernel_rfl) (by kernel_rfl) (fun _ _ _ h => h) (by kernel_rfl) (fun _ _ _ h => h.1) (fun _ h => ⟨h, fun hj => absurd hj (by decide)⟩) (by rfl) (by intro w hSw; (try dsimp only [T1] at hSw); go_simp) TT.out ?_
                  simp only [Act.put, List.setIfInBounds_toArray, List.set_cons_zero, List.set_cons_succ]
                  refine wpAnyP_take' T1 (fun _ => true) 5 (.slice (some ⟨g, 0, none⟩) (m1 + 1) cap) rfl (by kernel_rfl) (by kernel_rfl) (by kernel_rfl) (fun _ _ _ h => h) (by kernel_rfl) (fun _ _ _ h => h.1) (fun _ h => ⟨h, fun hj => absurd hj (by decide)⟩) (by rfl) (by intro w hSw; (try dsimp only [T1] at hSw); go_simp) TT.out ?_
                  simp only [Act.put, List.setIfInBounds_toArray, List.set_cons_zero, List.set_cons_succ]
                  refine wpAnyP_take' T1 (fun _ => true) 6 (.int .i64 ((m1 : Int) + 1)) rfl (by kernel_rfl) (by kernel_rfl) (by kernel_rfl) (fun _ _ _ h => h) (by kernel_rfl) (fun _ _ _ h => h.1) (fun _ h => ⟨h, fun hj => absurd hj (by decide)⟩) (by rfl) (by intro w hSw; (try dsimp only [T1] at hSw); go_simp) TT.out ?_
                  simp only [Act.put, List.setIfInBounds_toArray, List.set_cons_zero, List.set_cons_succ]
                  refine wpAnyP_take' T1 (fun _ => true) 7 (.int .i64 (m1 : Int)) rfl (by kernel_rfl) (by kernel_rfl) (by kernel_rfl) (fun _ _ _ h => h) (by kernel_rfl) (fun _ _ _ h => h.1) (fun _ h => ⟨h, fun hj => absurd hj (by decide)⟩) (by rfl) (by intro w hSw; (try dsimp only [T1] at hSw); go_simp) TT.out ?_
                  simp only [Act.put, List.setIfInBounds_toArray, List.set_cons_zero, List.set_cons_succ]
                  refine wpAnyP_take' T1 (fun _ => true) 8 (.pointer (some ⟨g, m1 * 4, none⟩)) rfl (by kernel_rfl) (by kernel_rfl) (by kernel_rfl) (fun _ _ _ h => h) (by kernel_rfl) (fun _ _ _ h => h.1) (fun _ h => ⟨h, fun hj => absurd hj (by decide)⟩) (by rfl) (by intro w hSw; (try dsimp only [T1] at hSw); go_simp) TT.out ?_
                  simp only [Act.put, List.setIfInBounds_toArray, List.set_cons_zero, List.set_cons_succ]
                  refine wpAnyP_take' T1 (fun _ => true) 9 (.pointer (some ⟨g, m1 * 4 + 3, none⟩)) rfl (by kernel_rfl) (by kernel_rfl) (by kernel_rfl) (fun _ _ _ h => h) (by kernel_rfl) (fun _ _ _ h => h.1) (fun _ h => ⟨h, fun hj => absurd hj (by decide)⟩) (by rfl) (by intro w hSw; (try dsimp only [T1] at hSw); go_simp) TT.out ?_
                  simp only [Act.put, List.setIfInBounds_toArray, List.set_cons_zero, List.set_cons_succ]
                  refine wpAnyP_take' T1 (fun _ => true) 11 (.agg #[.int .i64 c0.k, .int .i64 c0.a, .string ⟨#[]⟩, .slice A3 xs.length c3]) rfl (by kernel_rfl) (by kernel_rfl) (by kernel_rfl) (fun _ _ _ h => h) (by kernel_rfl) (fun _ _ _ h => h.1) (fun _ h => ⟨h, fun hj => absurd hj (by decide)⟩) (by rfl) (by intro w hSw; (try dsimp only [T1] at hSw); go_simp) TT.out ?_
                  simp only [Act.put, List.setIfInBounds_toArray, List.set_cons_zero, List.set_cons_succ]
                  refine wpAnyP_take' (fun w' => T1 w' ∧ Y1 w') (fun j => j == 13) 10 (.slice A4 xs1.length c4) rfl (by kernel_rfl) (by kernel_rfl) (by kernel_rfl) (fun _ _ _ h => h) (by kernel_rfl) (fun j hj _ h => ⟨h.1, h.2 (eq_of_beq hj)⟩) (fun _ h => ⟨h.1, fun hj => absurd hj (by decide)⟩) (by rfl) (by intro w hSw; (try dsimp only [T1, Y1] at hSw); go_simp) ⟨TT.out, YY.out⟩ ?_
                  simp only [Act.put, List.setIfInBounds_toArray, List.set_cons_zero, List.set_cons_succ]
                  refine wpAnyP_take' T1 (fun _ => true) 12 (.int .i64 xs1.length) rfl (by kernel_rfl) (by kernel_rfl) (by kernel_rfl) (fun _ _ _ h => h) (by kernel_rfl) (fun _ _ _ h => h.1) (fun _ h => ⟨h, fun hj => absurd hj (by decide)⟩) (by rfl) (by intro w hSw; (try dsimp only [T1] at hSw); go_simp) TT.out ?_
                  simp only [Act.put, List.setIfInBounds_toArray, List.set_cons_zero, List.set_cons_succ]
                  refine wpAnyP_one (by kernel_rfl) (wpOp_run (i := 13) rfl (fun K12 hK12 => ?_))
                  go_simp
                  refine hK12.out _ _ ⟨⟨⟨?_, ?_, ?_, ?_⟩, fun _ => ?_⟩, ?_⟩
                  · go_simp
                  · go_simp
                  · go_simp
                  · go_simp
                  · (try dsimp only [Y1]); go_simp
                  clear hK12 K12
                  simp only [Act.put, List.setIfInBounds_toArray, List.set_cons_zero, List.set_cons_succ]
                  refine wpAnyP_one (by kernel_rfl) (wpOp_run (i := 14) rfl (fun K13 hK13 => ?_))
                  refine Kd.R_append_step k39 (w0 := W) W.heap.size (by rfl) (.tmp 92) (.tmp 95) 24 39 (.agg #[(.int .i64 0), (.int .i64 0), (.string ⟨#[]⟩), (.slice none 0 0)]) 56 rfl Try.underlying24 info39 rfl (by decide) (by decide) (.slice A4 xs1.length c4) xs1 z39 [.int .i64 0, .int .i64 0, .string ⟨#[]⟩, .slice none 0 0] (fun k => (if k < W3.heap.size then (if tag k = m1 + 1 + 1 then m1 + 1 else tag k) else m1 + 1) = m1 + 1) (fun _ => False) rfl (by rfl) (k39_mkM _ _ _ z39 (Kd.R_nil _ _ _ _ _)) (fun _ hk => hk.elim) (fun k hk => if_neg (by have hk2 : W3.heap.size ≤ k := hk; omega)) (Kd.R_drew HRT.out) (below_drew BB3.out) BB3.out.size (by have := HLx.out; omega) ?_
                  rintro v3 w3 hR3 hB3 hg3 hat3
                  obtain ⟨g5, cap5, rfl, g5B, g5L, _⟩ := Kd.R_form hR3 (by simp)
                  rw [List.length_append, List.length_singleton] at hR3 ⊢
                  obtain ⟨zN5, t5, zB5, zL5, ⟨u5, s0, s1, s2, s3⟩, ⟨f0, f1, f2, f3⟩, seg5⟩ := last_z hR3
                  have bg : w3.heap[g]? = W3.drew.heap[g]? := hg3.block g HX13.out.2 (fun e => by have := HRT.out.1 g e.symm; have := HGT.out; omega)
                  have y4 : w3.cell? ⟨g, m1 * 4 + 3, none⟩ = some (.slice A4 xs1.length c4) := (World.cell?_of_block (a := ⟨g, m1 * 4 + 3, none⟩) bg).trans y3
                  have yf4 : w3.frozen? ⟨g, m1 * 4 + 3, none⟩ = false := (World.frozen?_of_block (a := ⟨g, m1 * 4 + 3, none⟩) bg).trans yf
                  have bb : w3.heap[W1.heap.size]? = W3.drew.heap[W1.heap.size]? := hg3.block W1.heap.size (World.block_lt_of_cell? W3 _ z0) (fun e => by have := HLo.out _ e.symm; omega)
                  have b4 : w3.cell? ⟨W1.heap.size, 0, none⟩ = some (.int .i64 c0.k) := (World.cell?_of_block (a := ⟨W1.heap.size, 0, none⟩) bb).trans z0
                  have b5 : w3.cell? ⟨W1.heap.size, 1, none⟩ = some (.int .i64 c0.a) := (World.cell?_of_block (a := ⟨W1.heap.size, 1, none⟩) bb).trans z1
                  have b6 : w3.cell? ⟨W1.heap.size, 2, none⟩ = some (.string ⟨#[]⟩) := (World.cell?_of_block (a := ⟨W1.heap.size, 2, none⟩) bb).trans z2
                  have b7 : w3.cell? ⟨W1.heap.size, 3, none⟩ = some (.slice A3 xs.length c3) := (World.cell?_of_block (a := ⟨W1.heap.size, 3, none⟩) bb).trans z3
                  have n5 : g5 ≠ g := by intro e; rw [e] at t5; have := HGT.out; omega
                  have n6 : g ≠ g5 := fun e => n5 e.symm
                  have HR5 := Aside0.mk hR3
                  have HB5 := Aside0.mk hB3
                  have HG5 := Aside0.mk hg3
                  have HA5 := Aside0.mk hat3
                  have g5Bx := Aside0.mk zB5
                  have HNG := Aside0.mk n6
                  have HRC3 := Aside0.mk (Kd.R_grown (Kd.R_drew HRC.out) hg3 (fun k hk e => by
                    have q := HRT.out.1 k e.symm
                    have q2 : (if k < W3.heap.size then (if tag k = m1 + 1 + 1 then m1 + 1 else tag k) else m1 + 1) = m1 + 1 := q
                    exact (HOK.out k hk).2 e))
                  clear bb seg5 hR3 hB3 hg3 hat3 t5 zN5 zB5 zL5 g5B g5L bg
                  refine hK13.out _ _ ⟨⟨⟨b4, b5, b6, b7⟩, fun hj => absurd hj (by decide)⟩, ?_⟩
                  clear hK13 K13
                  have TT3 : Aside0 (T1 w3) := ⟨⟨b4, b5, b6, b7⟩⟩
                  simp only [Act.put, List.setIfInBounds_toArray, List.set_cons_zero, List.set_cons_succ]
                  refine wpAnyP_take' T1 (fun _ => true) 15 (.pointer (some ⟨g, m1 * 4, none⟩)) rfl (by kernel_rfl) (by kernel_rfl) (by kernel_rfl) (fun _ _ _ h => h) (by kernel_rfl) (fun _ _ _ h => h.1) (fun _ h => ⟨h, fun hj => absurd hj (by decide)⟩) (by rfl) (by intro w hSw; (try dsimp only [T1] at hSw); go_simp) TT3.out ?_
                  simp only [Act.put, List.setIfInBounds_toArray, List.set_cons_zero, List.set_cons_succ]
                  refine wpAnyP_take' T1 (fun _ => true) 16 (.pointer (some ⟨g, m1 * 4 + 3, none⟩)) rfl (by kernel_rfl) (by kernel_rfl) (by kernel_rfl) (fun _ _ _ h => h) (by kernel_rfl) (fun _ _ _ h => h.1) (fun _ h => ⟨h, fun hj => absurd hj (by decide)⟩) (by rfl) (by intro w hSw; (try dsimp only [T1] at hSw); go_simp) TT3.out ?_
                  simp only [Act.put, List.setIfInBounds_toArray, List.set_cons_zero, List.set_cons_succ]
                  refine wpAnyP_one (i := 17) (by kernel_rfl) (wpOp_run (i := 17) rfl (fun K18 hK18 => ?_))
                  go_simp
                  refine hK18.out _ _ ⟨⟨⟨?_, ?_, ?_, ?_⟩, fun hj => absurd hj (by decide)⟩, ?_⟩
                  · go_simp
                  · go_simp
                  · go_simp
                  · go_simp
                  clear hK18 K18
                  simp only [Act.put, List.setIfInBounds_toArray, List.set_cons_zero, List.set_cons_succ]
                  refine wpAnyP_done (by kernel_rfl) ?_ _
                  have HOK5 := Aside0.mk (show ∀ k, (tag k = m1 + 1 + 1 ∧ k < W1.heap.size) → (if k < W3.heap.size then (if tag k = m1 + 1 + 1 then m1 + 1 else tag k) else m1 + 1) = m1 + 1 ∧ k ≠ g5 by
                    intro k hk
                    refine ⟨(HOK.out k hk).1, fun e => ?_⟩
                    subst e
                    rcases HA5.out with ha | ⟨b, hb, hle⟩
                    · exact (HOK.out _ hk).2 (by rw [← ha]; rfl)
                    · have hb' : k = b := by injection hb
                      have hle' : W3.heap.size ≤ b := hle
                      have := HX13.out.1
                      omega)
                  obtain ⟨ec4, hcl, hxl⟩ := EC.out
                  have HX := Aside0.mk (HMT.out.step (w1 := W3.drew) (fun k _ => rfl))
                  have HV := Aside0.mk (show c1'.v = .slice A4 xs1.length c4 by rw [ec4]; rfl)
                  have M2 := Aside0.mk (HX.out.app2 (hcl.trans hxl.symm) HV.out (by rw [hcl]; exact HR5.out) HG5.out (x := ⟨c0.k, c0.a, ⟨#[]⟩, xs⟩) (v5 := .slice A3 xs.length c3) HRC3.out (by rw [hcl]; exact HOK5.out))
                  rw [hcl] at M2
                  have HRun2 := Aside0.mk (show run (l.drop (i + 1).toNat) (stk (cs1 ++ [(⟨c1'.k, c1'.a, c1'.s, (some ⟨g5, 0, none⟩, xs1.length + 1, cap5)⟩ : Cf)]) (xss1 ++ [xs1 ++ [⟨c0.k, c0.a, ⟨#[]⟩, xs⟩]])) = run l [⟨0, 0, []⟩] by
                    obtain ⟨h0, h⟩ := HRunB.out
                    rw [h0, stk_snoc (by simp [hcl, hxl]), stk_snoc (hcl.trans hxl.symm), stp_shut] at h
                    rw [stk_snoc (hcl.trans hxl.symm)]
                    exact h.symm)
                  have HLen2 := Aside0.mk (show ∀ ys, ys ∈ xss1 ++ [xs1 ++ [⟨c0.k, c0.a, ⟨#[]⟩, xs⟩]] → ys.length ≤ (i + 1).toNat by
                    intro ys hy
                    rcases List.mem_append.1 hy with hy | hy
                    · have := HLen.out ys (List.mem_append_left _ (List.mem_append_left _ hy)); omega
                    · rw [List.mem_singleton.1 hy]; have := HLen.out xs1 (by simp); simp; omega)
                  have HBg := Aside0.mk (And.intro GB.out.1 g5Bx.out)
                  have HCL := Aside0.mk hcl.symm
                  clear HX HV HR5 HG5 HA5 ec4 hcl hxl
                  go_wp2_with fail
                  go_roundg kr
                  case measure => omega
                  case rel => exact ⟨g, cap, m1, i + 1, fun k => if k < W3.heap.size then (if tag k = m1 + 1 + 1 then m1 + 1 else tag k) else m1 + 1, cs1, ⟨c1'.k, c1'.a, c1'.s, (some ⟨g5, 0, none⟩, xs1.length + 1, cap5)⟩, xss1, xs1 ++ [⟨c0.k, c0.a, ⟨#[]⟩, xs⟩], rfl, (by first | rfl | (rw [← hw]; rfl) | (simp; done) | (simp [*]; done)), Q.out.1, Q.out.2.1, Q.out.2.2, by have := h4'.out; omega, HCL, HRun2, HLen2, ⟨by first | (with_reducible exact M2.out) | exact M2.out⟩, ⟨Kd.C_below HC.out (by repeat (first | exact HB5.out | refine Below.setCell ?_ HBg.out.1 _ | refine Below.setCell ?_ HBg.out.2 _))⟩, ⟨by repeat (first | exact HB5.out | refine Below.setCell ?_ HBg.out.1 _ | refine Below.setCell ?_ HBg.out.2 _)⟩⟩
            · obtain ⟨W1, hW1⟩ : ∃ W1, W1 = wr.alloc (Obj.cells #[Value.int IntKind.i64 tk, Value.int IntKind.i64 ta, Value.string ts] 36) := ⟨_, rfl⟩
              have hB1 : Below wr.heap.size wr W1 := by rw [hW1]; exact below_alloc (Below.refl _ _) _
              have b0 : W1.cell? ⟨wr.heap.size, 0, none⟩ = some (.int .i64 tk) := by rw [hW1]; go_simp
              have b1 : W1.cell? ⟨wr.heap.size, 1, none⟩ = some (.int .i64 ta) := by rw [hW1]; go_simp
              have b2 : W1.cell? ⟨wr.heap.size, 2, none⟩ = some (.string ts) := by rw [hW1]; go_simp
              have y3 := pw_cell_below hB1 y3
              have HBB1 := Aside0.mk ((HBB.out.trans (hB1.mono HBB.out.size)))
              have HMT := Aside0.mk ((HMem.out.step (fun k hk => hB1.block k hk)).retag (tag' := fun k => if k < W1.heap.size then tag k else m + 1) (fun k hk _ => if_pos hk))
              obtain ⟨zN, zL, A3', c3', ec3', RT, zy0, zy1, zy2, y3', yf, zB, gL1, zC⟩ := HMT.out.last
              have eA : A3' = A3 ∧ c3' = c3 := by rw [ec0'.out] at ec3'; injection ec3' with _ _ _ e; injection e with e1 e2; injection e2 with _ e3; exact ⟨e1.symm, e3.symm⟩
              obtain ⟨rfl, rfl⟩ := eA
              rw [← HM.out] at RT yf
              have n0 := World.new_ne _ _ b0
              have n3 := World.new_ne _ _ y3
              have n0' : wr.heap.size ≠ W1.heap.size := fun e => n0 e.symm
              have n3' : g ≠ W1.heap.size := fun e => n3 e.symm
              have HLb := Aside0.mk (World.block_lt_of_cell? W1 _ b0)
              have n0l : wr.heap.size < W1.heap.size := World.block_lt_of_cell? W1 _ b0
              have n9 : g ≠ wr.heap.size := by have := GB.out; omega
              have n10 : wr.heap.size ≠ g := fun e => n9 e.symm
              have n3l : g < W1.heap.size := World.block_lt_of_cell? W1 _ y3
              have HLo := Aside0.mk (Kd.R_lt RL'.out)
              have HRT := Aside0.mk RT
              have lt1 : ((xs.length : Int) < (xs.length : Int) + 1) = True := eq_true (by omega)
              have HW1 := Aside0.mk hB1.size
              have HLx := Aside0.mk (show xs.length ≤ 100000 by have := HLen.out xs (by simp); have := HS.out; omega)
              have HGT := Aside0.mk (show (if g < W1.heap.size then tag g else m + 1) = 0 from HMT.out.row.1 g (by simp [Value.ownBlock]))
              have HKK := Aside0.mk (And.intro k1 k2)
              have d0 : W1.drew.cell? ⟨wr.heap.size, 0, none⟩ = some (.int .i64 tk) ∧ W1.drew.cell? ⟨wr.heap.size, 1, none⟩ = some (.int .i64 ta) ∧ W1.drew.cell? ⟨wr.heap.size, 2, none⟩ = some (.string ts) := ⟨b0, b1, b2⟩
              clear zN zL zy0 zy1 zy2 zB zC ec3' y3' gL1
              go_upto_region 9 with fail
              rw [← hW1]
              clear hW1 hB1 HMem HCC HBB x0 x1 x2 y0 y1 y2 RT HC2 RL'
              let T1 : World → Prop := fun w' => w'.cell? ⟨wr.heap.size, 0, none⟩ = some (.int .i64 tk) ∧ w'.cell? ⟨wr.heap.size, 1, none⟩ = some (.int .i64 ta) ∧ w'.cell? ⟨wr.heap.size, 2, none⟩ = some (.string ts)
              let Y1 : World → Prop := fun w' => w'.cell? ⟨g, m * 4 + 3, none⟩ = some (.slice A3' xs.length c3')
              have TT : Aside0 (T1 W1.drew) := ⟨d0⟩
              have YY : Aside0 (Y1 W1.drew) := ⟨y3⟩
              refine wp_region_heldP (fun j w' => T1 w' ∧ (j = 12 → Y1 w')) (by kernel_rfl) ?_
              simp only [List.size_toArray, List.length_cons, List.length_nil, Nat.zero_add, Nat.reduceAdd, Array.replicate, List.replicate]
              refine wpAnyP_take' T1 (fun _ => true) 0 (.pointer (some ⟨g, m * 4, none⟩)) rfl (by kernel_rfl) (by kernel_rfl) (by kernel_rfl) (fun _ _ _ h => h) (by kernel_rfl) (fun _ _ _ h => h.1) (fun _ h => ⟨h, fun hj => absurd hj (by decide)⟩) (by rfl) (by intro w hSw; (try dsimp only [T1] at hSw); go_simp) TT.out ?_
              simp only [Act.put, List.setIfInBounds_toArray, List.set_cons_zero, List.set_cons_succ]
              refine wpAnyP_take' T1 (fun _ => true) 1 (.pointer (some ⟨g, m * 4, none⟩)) rfl (by kernel_rfl) (by kernel_rfl) (by kernel_rfl) (fun _ _ _ h => h) (by kernel_rfl) (fun _ _ _ h => h.1) (fun _ h => ⟨h, fun hj => absurd hj (by decide)⟩) (by rfl) (by intro w hSw; (try dsimp only [T1] at hSw); go_simp) TT.out ?_
              simp only [Act.put, List.setIfInBounds_toArray, List.set_cons_zero, List.set_cons_succ]
              refine wpAnyP_take' T1 (fun _ => true) 2 (.pointer (some ⟨g, m * 4 + 3, none⟩)) rfl (by kernel_rfl) (by kernel_rfl) (by kernel_rfl) (fun _ _ _ h => h) (by kernel_rfl) (fun _ _ _ h => h.1) (fun _ h => ⟨h, fun hj => absurd hj (by decide)⟩) (by rfl) (by intro w hSw; (try dsimp only [T1] at hSw); go_simp) TT.out ?_
              simp only [Act.put, List.setIfInBounds_toArray, List.set_cons_zero, List.set_cons_succ]
              refine wpAnyP_take' T1 (fun _ => true) 4 (.pointer (some ⟨wr.heap.size, 0, none⟩)) rfl (by kernel_rfl) (by kernel_rfl) (by kernel_rfl) (fun _ _ _ h => h) (by kernel_rfl) (fun _ _ _ h => h.1) (fun _ h => ⟨h, fun hj => absurd hj (by decide)⟩) (by rfl) (by intro w hSw; (try dsimp only [T1] at hSw); go_simp) TT.out ?_
              simp only [Act.put, List.setIfInBounds_toArray, List.set_cons_zero, List.set_cons_succ]
              refine wpAnyP_take' T1 (fun _ => true) 5 (.int .i64 tk) rfl (by kernel_rfl) (by kernel_rfl) (by kernel_rfl) (fun _ _ _ h => h) (by kernel_rfl) (fun _ _ _ h => h.1) (fun _ h => ⟨h, fun hj => absurd hj (by decide)⟩) (by rfl) (by intro w hSw; (try dsimp only [T1] at hSw); go_simp) TT.out ?_
              simp only [Act.put, List.setIfInBounds_toArray, List.set_cons_zero, List.set_cons_succ]
              refine wpAnyP_take' T1 (fun _ => true) 6 (.pointer (some ⟨wr.heap.size, 1, none⟩)) rfl (by kernel_rfl) (by kernel_rfl) (by kernel_rfl) (fun _ _ _ h => h) (by kernel_rfl) (fun _ _ _ h => h.1) (fun _ h => ⟨h, fun hj => absurd hj (by decide)⟩) (by rfl) (by intro w hSw; (try dsimp only [T1] at hSw); go_simp) TT.out ?_
              simp only [Act.put, List.setIfInBounds_toArray, List.set_cons_zero, List.set_cons_succ]
              refine wpAnyP_take' T1 (fun _ => true) 7 (.int .i64 ta) rfl (by kernel_rfl) (by kernel_rfl) (by kernel_rfl) (fun _ _ _ h => h) (by kernel_rfl) (fun _ _ _ h => h.1) (fun _ h => ⟨h, fun hj => absurd hj (by decide)⟩) (by rfl) (by intro w hSw; (try dsimp only [T1] at hSw); go_simp) TT.out ?_
              simp only [Act.put, List.setIfInBounds_toArray, List.set_cons_zero, List.set_cons_succ]
              refine wpAnyP_take' T1 (fun _ => true) 8 (.pointer (some ⟨wr.heap.size, 2, none⟩)) rfl (by kernel_rfl) (by kernel_rfl) (by kernel_rfl) (fun _ _ _ h => h) (by kernel_rfl) (fun _ _ _ h => h.1) (fun _ h => ⟨h, fun hj => absurd hj (by decide)⟩) (by rfl) (by intro w hSw; (try dsimp only [T1] at hSw); go_simp) TT.out ?_
              simp only [Act.put, List.setIfInBounds_toArray, List.set_cons_zero, List.set_cons_succ]
              refine wpAnyP_take' T1 (fun _ => true) 9 (.string ts) rfl (by kernel_rfl) (by kernel_rfl) (by kernel_rfl) (fun _ _ _ h => h) (by kernel_rfl) (fun _ _ _ h => h.1) (fun _ h => ⟨h, fun hj => absurd hj (by decide)⟩) (by rfl) (by intro w hSw; (try dsimp only [T1] at hSw); go_simp) TT.out ?_
              simp only [Act.put, List.setIfInBounds_toArray, List.set_cons_zero, List.set_cons_succ]
              refine wpAnyP_take' T1 (fun _ => true) 10 (.agg #[.int .i64 tk, .int .i64 ta, .string ts, .slice none 0 0]) rfl (by kernel_rfl) (by kernel_rfl) (by kernel_rfl) (fun _ _ _ h => h) (by kernel_rfl) (fun _ _ _ h => h.1) (fun _ h => ⟨h, fun hj => absurd hj (by decide)⟩) (by rfl) (by intro w hSw; (try dsimp only [T1] at hSw); go_simp) TT.out ?_
              simp only [Act.put, List.setIfInBounds_toArray, List.set_cons_zero, List.set_cons_succ]
              refine wpAnyP_take' (fun w' => T1 w' ∧ Y1 w') (fun j => j == 12) 3 (.slice A3' xs.length c3') rfl (by kernel_rfl) (by kernel_rfl) (by kernel_rfl) (fun _ _ _ h => h) (by kernel_rfl) (fun j hj _ h => ⟨h.1, h.2 (eq_of_beq hj)⟩) (fun _ h => ⟨h.1, fun hj => absurd hj (by decide)⟩) (by rfl) (by intro w hSw; (try dsimp only [T1, Y1] at hSw); go_simp) ⟨TT.out, YY.out⟩ ?_
              simp only [Act.put, List.setIfInBounds_toArray, List.set_cons_zero, List.set_cons_succ]
              refine wpAnyP_take' T1 (fun _ => true) 11 (.int .i64 xs.length) rfl (by kernel_rfl) (by kernel_rfl) (by kernel_rfl) (fun _ _ _ h => h) (by kernel_rfl) (fun _ _ _ h => h.1) (fun _ h => ⟨h, fun hj => absurd hj (by decide)⟩) (by rfl) (by intro w hSw; (try dsimp only [T1] at hSw); go_simp) TT.out ?_
              simp only [Act.put, List.setIfInBounds_toArray, List.set_cons_zero, List.set_cons_succ]
              refine wpAnyP_one (by kernel_rfl) (wpOp_run (i := 12) rfl (fun K12 hK12 => ?_))
              go_simp
              refine hK12.out _ _ ⟨⟨⟨?_, ?_, ?_⟩, fun _ => ?_⟩, ?_⟩
              · go_simp
              · go_simp
              · go_simp
              · (try dsimp only [Y1]); go_simp
              clear hK12 K12
              simp only [Act.put, List.setIfInBounds_toArray, List.set_cons_zero, List.set_cons_succ]
              refine wpAnyP_one (by kernel_rfl) (wpOp_run (i := 13) rfl (fun K13 hK13 => ?_))
              refine Kd.R_append_step k39 (w0 := W) W.heap.size (by rfl) (.tmp 30) (.tmp 39) 24 39 (.agg #[(.int .i64 0), (.int .i64 0), (.string ⟨#[]⟩), (.slice none 0 0)]) 56 rfl Try.underlying24 info39 rfl (by decide) (by decide) (.slice A3' xs.length c3') xs z39 [.int .i64 0, .int .i64 0, .string ⟨#[]⟩, .slice none 0 0] (fun k => (if k < W1.heap.size then tag k else m + 1) = m + 1) (fun _ => False) rfl (by rfl) (k39_mkM _ _ _ z39 (Kd.R_nil _ _ _ _ _)) (fun _ hk => hk.elim) (fun k hk => if_neg (by have hk2 : W1.heap.size ≤ k := hk; omega)) (Kd.R_drew HRT.out) (below_drew HBB1.out) HBB1.out.size (by have := HLx.out; omega) ?_
              rintro v3 w3 hR3 hB3 hg3 hat3
              obtain ⟨g5, cap5, rfl, g5B, g5L, _⟩ := Kd.R_form hR3 (by simp)
              rw [List.length_append, List.length_singleton] at hR3 ⊢
              obtain ⟨zN5, t5, zB5, zL5, ⟨u5, s0, s1, s2, s3⟩, ⟨f0, f1, f2, f3⟩, seg5⟩ := last_z hR3
              have bg : w3.heap[g]? = W1.drew.heap[g]? := hg3.block g (Nat.lt_of_lt_of_le GB.out.2 HW1.out) (fun e => by have := HRT.out.1 g e.symm; have := HGT.out; omega)
              have y4 : w3.cell? ⟨g, m * 4 + 3, none⟩ = some (.slice A3' xs.length c3') := (World.cell?_of_block (a := ⟨g, m * 4 + 3, none⟩) bg).trans y3
              have yf4 : w3.frozen? ⟨g, m * 4 + 3, none⟩ = false := (World.frozen?_of_block (a := ⟨g, m * 4 + 3, none⟩) bg).trans yf
              have HF5 := Aside0.mk seg5
              have HR5 := Aside0.mk hR3
              have HB5 := Aside0.mk hB3
              have HG5 := Aside0.mk hg3
              have HA5 := Aside0.mk hat3
              have HT5 := Aside0.mk t5
              have g5Bx := Aside0.mk zB5
              have bb : w3.heap[wr.heap.size]? = W1.drew.heap[wr.heap.size]? := hg3.block wr.heap.size HLb.out (fun e => by have := HLo.out _ e.symm; omega)
              have b4 : w3.cell? ⟨wr.heap.size, 0, none⟩ = some (.int .i64 tk) := (World.cell?_of_block (a := ⟨wr.heap.size, 0, none⟩) bb).trans b0
              have b5 : w3.cell? ⟨wr.heap.size, 1, none⟩ = some (.int .i64 ta) := (World.cell?_of_block (a := ⟨wr.heap.size, 1, none⟩) bb).trans b1
              have b6 : w3.cell? ⟨wr.heap.size, 2, none⟩ = some (.string ts) := (World.cell?_of_block (a := ⟨wr.heap.size, 2, none⟩) bb).trans b2
              have n7 : g5 ≠ wr.heap.size := by
                rcases hat3 with ha | ⟨b, hb, hle⟩
                · have := HLo.out g5 (by rw [← ha]; rfl); omega
                · have hb' : g5 = b := by injection hb
                  have hle' : W1.heap.size ≤ b := hle
                  omega
              have n8 : wr.heap.size ≠ g5 := fun e => n7 e.symm
              have n5 : g5 ≠ g := by intro e; rw [e] at t5; have := HGT.out; omega
              have n6 : g ≠ g5 := fun e => n5 e.symm
              clear bb seg5 hR3 hB3 hg3 hat3 t5 zN5 zB5 zL5 g5B g5L bg
              refine hK13.out _ _ ⟨⟨⟨b4, b5, b6⟩, fun hj => absurd hj (by decide)⟩, ?_⟩
              clear hK13 K13
              have TT3 : Aside0 (T1 w3) := ⟨⟨b4, b5, b6⟩⟩
              simp only [Act.put, List.setIfInBounds_toArray, List.set_cons_zero, List.set_cons_succ]
              refine wpAnyP_take' T1 (fun _ => true) 14 (.pointer (some ⟨g5, xs.length * 4, none⟩)) rfl (by kernel_rfl) (by kernel_rfl) (by kernel_rfl) (fun _ _ _ h => h) (by kernel_rfl) (fun _ _ _ h => h.1) (fun _ h => ⟨h, fun hj => absurd hj (by decide)⟩) (by rfl) (by intro w hSw; (try dsimp only [T1] at hSw); go_simp) TT3.out ?_
              simp only [Act.put, List.setIfInBounds_toArray, List.set_cons_zero, List.set_cons_succ]
              refine wpAnyP_take' T1 (fun _ => true) 16 (.pointer (some ⟨g, m * 4, none⟩)) rfl (by kernel_rfl) (by kernel_rfl) (by kernel_rfl) (fun _ _ _ h => h) (by kernel_rfl) (fun _ _ _ h => h.1) (fun _ h => ⟨h, fun hj => absurd hj (by decide)⟩) (by rfl) (by intro w hSw; (try dsimp only [T1] at hSw); go_simp) TT3.out ?_
              simp only [Act.put, List.setIfInBounds_toArray, List.set_cons_zero, List.set_cons_succ]
              refine wpAnyP_take' T1 (fun _ => true) 17 (.pointer (some ⟨g, m * 4 + 3, none⟩)) rfl (by kernel_rfl) (by kernel_rfl) (by kernel_rfl) (fun _ _ _ h => h) (by kernel_rfl) (fun _ _ _ h => h.1) (fun _ h => ⟨h, fun hj => absurd hj (by decide)⟩) (by rfl) (by intro w hSw; (try dsimp only [T1] at hSw); go_simp) TT3.out ?_
              simp only [Act.put, List.setIfInBounds_toArray, List.set_cons_zero, List.set_cons_succ]
              refine wpAnyP_two (i := 15) (k := 18) (by kernel_rfl) ?_ ?_
              · refine (wpOp_run (i := 15) rfl (fun K15 hK15 => ?_))
                go_simp
                refine hK15.out _ _ ⟨⟨⟨?_, ?_, ?_⟩, fun hj => absurd hj (by decide)⟩, ?_⟩
                · go_simp
                · go_simp
                · go_simp
                clear hK15 K15
                simp only [Act.put, List.setIfInBounds_toArray, List.set_cons_zero, List.set_cons_succ]
                refine wpAnyP_one (i := 18) (by kernel_rfl) ?_
                refine (wpOp_run (i := 18) rfl (fun K18 hK18 => ?_))
                go_simp
                refine hK18.out _ _ ⟨⟨⟨?_, ?_, ?_⟩, fun hj => absurd hj (by decide)⟩, ?_⟩
                · go_simp
                · go_simp
                · go_simp
                clear hK18 K18
                simp only [Act.put, List.setIfInBounds_toArray, List.set_cons_zero, List.set_cons_succ]
                refine wpAnyP_done (by kernel_rfl) ?_ _
                have HX := Aside0.mk (HMT.out.step (w1 := W1.drew) (fun k _ => rfl))
                have HV := Aside0.mk (show c0.v = .slice A3' xs.length c3' by rw [ec0'.out]; rfl)
                have M1 := Aside0.mk (HX.out.app1 LL.out.2 HV.out (by rw [← HM.out]; exact HR5.out) HG5.out HA5.out (x := ⟨tk, ta, ts, []⟩) (v5 := .slice none 0 0) (okp := fun _ => False) (Kd.R_nil _ _ _ _ _) (fun _ hk => hk.elim))
                have M2 := Aside0.mk (HX.out.app2 LL.out.2 HV.out (by rw [← HM.out]; exact HR5.out) HG5.out (x := ⟨tk, ta, ts, []⟩) (v5 := .slice none 0 0) (okp := fun _ => False) (Kd.R_nil _ _ _ _ _) (fun _ hk => hk.elim))
                rw [← HM.out] at M1 M2
                have HRun2 := Aside0.mk (show run (l.drop (i + 1).toNat) (stk (cs ++ [(⟨c0.k, c0.a, c0.s, (some ⟨g5, 0, none⟩, xs.length + 1, cap5)⟩ : Cf)]) (xss ++ [xs ++ [⟨tk, ta, ts, []⟩]])) = run l [⟨0, 0, []⟩] by
                  have h := HR1'.out
                  rw [HRun.out, stk_snoc LL.out.2, stp_else HKK.out.1 HKK.out.2] at h
                  rw [stk_snoc LL.out.2]
                  exact h.symm)
                have HLen2 := Aside0.mk (show ∀ ys, ys ∈ xss ++ [xs ++ [⟨tk, ta, ts, []⟩]] → ys.length ≤ (i + 1).toNat by
                  intro ys hy
                  rcases List.mem_append.1 hy with hy | hy
                  · have := HLen.out ys (List.mem_append_left _ hy); omega
                  · rw [List.mem_singleton.1 hy]; have := HLen.out xs (by simp); simp; omega)
                have HBg := Aside0.mk (And.intro GB.out.1 g5Bx.out)
                clear HX HV HR5 HG5 HA5 HF5 HT5
                go_wp2_with fail
                go_roundg kr
                case measure => omega
                case rel => exact ⟨g, cap, m, i + 1, fun k => if k < W1.heap.size then tag k else m + 1, cs, ⟨c0.k, c0.a, c0.s, (some ⟨g5, 0, none⟩, xs.length + 1, cap5)⟩, xss, xs ++ [⟨tk, ta, ts, []⟩], rfl, (by first | rfl | (rw [← hw]; rfl) | (simp; done) | (simp [*]; done)), Q.out.1, Q.out.2.1, Q.out.2.2, h4, HM, HRun2, HLen2, ⟨by first | (with_reducible exact M1.out) | (with_reducible exact M2.out) | exact M1.out | exact M2.out⟩, ⟨Kd.C_below HC.out (by repeat (first | exact HB5.out | refine Below.setCell ?_ HBg.out.1 _ | refine Below.setCell ?_ HBg.out.2 _))⟩, ⟨by repeat (first | exact HB5.out | refine Below.setCell ?_ HBg.out.1 _ | refine Below.setCell ?_ HBg.out.2 _)⟩⟩
              · refine (wpOp_run (i := 18) rfl (fun K18 hK18 => ?_))
                go_simp
                refine hK18.out _ _ ⟨⟨⟨?_, ?_, ?_⟩, fun hj => absurd hj (by decide)⟩, ?_⟩
                · go_simp
                · go_simp
                · go_simp
                clear hK18 K18
                simp only [Act.put, List.setIfInBounds_toArray, List.set_cons_zero, List.set_cons_succ]
                refine wpAnyP_one (i := 15) (by kernel_rfl) ?_
                refine (wpOp_run (i := 15) rfl (fun K15 hK15 => ?_))
                go_simp
                refine hK15.out _ _ ⟨⟨⟨?_, ?_, ?_⟩, fun hj => absurd hj (by decide)⟩, ?_⟩
                · go_simp
                · go_simp
                · go_simp
                clear hK15 K15
                simp only [Act.put, List.setIfInBounds_toArray, List.set_cons_zero, List.set_cons_succ]
                refine wpAnyP_done (by kernel_rfl) ?_ _
                have HX := Aside0.mk (HMT.out.step (w1 := W1.drew) (fun k _ => rfl))
                have HV := Aside0.mk (show c0.v = .slice A3' xs.length c3' by rw [ec0'.out]; rfl)
                have M1 := Aside0.mk (HX.out.app1 LL.out.2 HV.out (by rw [← HM.out]; exact HR5.out) HG5.out HA5.out (x := ⟨tk, ta, ts, []⟩) (v5 := .slice none 0 0) (okp := fun _ => False) (Kd.R_nil _ _ _ _ _) (fun _ hk => hk.elim))
                have M2 := Aside0.mk (HX.out.app2 LL.out.2 HV.out (by rw [← HM.out]; exact HR5.out) HG5.out (x := ⟨tk, ta, ts, []⟩) (v5 := .slice none 0 0) (okp := fun _ => False) (Kd.R_nil _ _ _ _ _) (fun _ hk => hk.elim))
                rw [← HM.out] at M1 M2
                have HRun2 := Aside0.mk (show run (l.drop (i + 1).toNat) (stk (cs ++ [(⟨c0.k, c0.a, c0.s, (some ⟨g5, 0, none⟩, xs.length + 1, cap5)⟩ : Cf)]) (xss ++ [xs ++ [⟨tk, ta, ts, []⟩]])) = run l [⟨0, 0, []⟩] by
                  have h := HR1'.out
                  rw [HRun.out, stk_snoc LL.out.2, stp_else HKK.out.1 HKK.out.2] at h
                  rw [stk_snoc LL.out.2]
                  exact h.symm)
                have HLen2 := Aside0.mk (show ∀ ys, ys ∈ xss ++ [xs ++ [⟨tk, ta, ts, []⟩]] → ys.length ≤ (i + 1).toNat by
                  intro ys hy
                  rcases List.mem_append.1 hy with hy | hy
                  · have := HLen.out ys (List.mem_append_left _ hy); omega
                  · rw [List.mem_singleton.1 hy]; have := HLen.out xs (by simp); simp; omega)
                have HBg := Aside0.mk (And.intro GB.out.1 g5Bx.out)
                clear HX HV HR5 HG5 HA5 HF5 HT5
                go_wp2_with fail
                go_roundg kr
                case measure => omega
                case rel => exact ⟨g, cap, m, i + 1, fun k => if k < W1.heap.size then tag k else m + 1, cs, ⟨c0.k, c0.a, c0.s, (some ⟨g5, 0, none⟩, xs.length + 1, cap5)⟩, xss, xs ++ [⟨tk, ta, ts, []⟩], rfl, (by first | rfl | (rw [← hw]; rfl) | (simp; done) | (simp [*]; done)), Q.out.1, Q.out.2.1, Q.out.2.2, h4, HM, HRun2, HLen2, ⟨by first | (with_reducible exact M1.out) | (with_reducible exact M2.out) | exact M1.out | exact M2.out⟩, ⟨Kd.C_below HC.out (by repeat (first | exact HB5.out | refine Below.setCell ?_ HBg.out.1 _ | refine Below.setCell ?_ HBg.out.2 _))⟩, ⟨by repeat (first | exact HB5.out | refine Below.setCell ?_ HBg.out.1 _ | refine Below.setCell ?_ HBg.out.2 _)⟩⟩
        · have hi : i.toNat = l.length := by omega
          have HRe := HRun.out
          rw [hi, List.drop_length] at HRe
          have c1 : decide (i < (l.length : Int)) = false := decide_eq_false hlt
          obtain ⟨lastN, lastL, A3, c3, ec0, RL, y0, y1, y2, y3, yf, gB, gL, gC⟩ := HMem.out.last
          have em := HM.out
          rw [← em] at y0 y1 y2 y3 yf RL
          rcases Nat.eq_zero_or_pos m with k3 | k3
          · subst k3
            have e1 : cs = [] := List.length_eq_zero_iff.1 em.symm
            have e2 : xss = [] := List.length_eq_zero_iff.1 (by rw [← lastL]; exact em.symm)
            have HN := Aside0.mk (show prsO l = some xs by
              unfold prsO
              rw [HP.out, ← HRe, e1, e2]
              rfl)
            have RL' := Aside0.mk RL
            rw [Nat.zero_mul, Nat.zero_add] at y3
            clear RL ec0 lastN lastL em y0 y1 y2 yf hlt gC HRe
            go_wp2_with fail
            go_ret2
            rw [HN.out]
            exact ⟨⟨A3, c3, rfl, Kd.R_mono RL'.out (fun _ _ => trivial)⟩, HBB.out⟩
          · obtain ⟨m1, rfl⟩ : ∃ m1, m = m1 + 1 := ⟨m - 1, by omega⟩
            obtain ⟨cs1, c1', hcs, hcl⟩ := snoc_of em.symm
            obtain ⟨xss1, xs1, hxs, hxl⟩ := snoc_of (lastL.symm.trans em.symm)
            have HN := Aside0.mk (show prsO l = none by
              unfold prsO
              rw [HP.out, ← HRe, stk_snoc lastL, hcs, hxs, stk_snoc (by rw [hcl, hxl])]
              rfl)
            have nb := World.new_ne _ _ y1
            have eM : IntKind.i64.wrap (((m1 + 1 : Nat) : Int) + 1 - 1) = ((m1 + 1 : Nat) : Int) := by rw [IntKind.wrap_i64]; omega
            clear RL ec0 lastN lastL em y0 y2 yf hlt gC HRe hcs hcl hxs hxl y3
            go_wp2_with fail
            go_region
            all_goals
              go_wp2_with fail
              go_ret2
              rw [HN.out]
              exact ⟨⟨_, _, rfl⟩, by repeat (first | exact HBB.out | apply below_alloc | apply pw_below_drewN | apply below_drew)⟩
end Go.Proofs.Ytiicmihecdeebaa.Lt
