import Derived.Test.YtbelijoggbblgaaSp20
namespace Go.Proofs.Ytbelijoggbblgaa.Sp
open Go.RowKit Go.Proofs.YtbelijoggbblgaaW.PrintWords Go.Proofs.YtbelijoggbblgaaW.PrintLast Go.Proofs.YtbelijoggbblgaaW.PrintMore Go.Proofs.Ytbelijoggbblgaa.PStorePlays Go.Proofs.Ytbelijoggbblgaa.St
set_option linter.unusedVariables false
set_option linter.unusedSimpArgs false
theorem Only.chain {a b c : World} {S S' : Nat → Prop} (h : Only a b S) (k : Only b c S') (hS : ∀ i, i < a.heap.size → S' i → S i) : Only a c S :=
  ⟨k.os.trans h.os, k.tape.trans h.tape, k.output.trans h.output, Nat.le_trans h.size k.size, fun i hi hn => (k.block i (Nat.lt_of_lt_of_le hi h.size) (fun q => hn (hS i hi q))).trans (h.block i hi hn)⟩
/-- The new blocks: the tag t for those of P, else 0. -/
def ext0 (w : World) (tag : Nat → Nat) (P : Nat → Prop) [DecidablePred P] (t : Nat) : Nat → Nat := fun k => if k < w.heap.size then tag k else if P k then t else 0
theorem ext0_old (w : World) (tag : Nat → Nat) (P : Nat → Prop) [DecidablePred P] (t : Nat) : ∀ k, k < w.heap.size → ext0 w tag P t k = tag k := fun k hk => if_pos hk
theorem ext0_new (w : World) (tag : Nat → Nat) (P : Nat → Prop) [DecidablePred P] (t k : Nat) (h : w.heap.size ≤ k) (hP : P k) : ext0 w tag P t k = t := by
  unfold ext0; rw [if_neg (by omega), if_pos hP]
theorem lf_new {w w1 : World} {base t : Nat} {tag : Nat → Nat} {A : Option Addr} {n c : Nat} {l : List Int} (hL : I64.R 3 w1 w.heap.size (fun _ => True) (.slice A n c) l) (hb : base ≤ w.heap.size) : Lf w1 base (ext0 w tag (fun k => blk A = some k) t) t (.slice A n c) l := by
  refine ⟨fun k hk => ext0_new w tag _ _ k (Kd.R_base hL k hk) (by rw [ownBlock_slice] at hk; exact hk), ?_⟩
  exact (Kd.R_lower (R_monoB hL (ok' := fun k => blk A = some k ∨ True) (fun _ _ _ _ => .inr trivial)) hb).2.imp_ (fun _ _ hp => hp)
set_option maxHeartbeats 8000000 in
set_option maxRecDepth 100000 in
theorem adds_t_yes {w W0 : World} {base s m : Nat} {F : List S32} {L : List (List Int × Int)} {N : List (Nat × Int)} {G : List S41} (h : Pl w W0 base s m F L N G) (hsm : s ≠ m) (hb : base ≤ w.heap.size) (hW : Below W0.heap.size W0 w) (h0 : W0.heap.size ≤ s) (h1 : W0.heap.size ≤ m) (hlL : L.length ≤ 90)
    (what n1 at_ : Int) {P : Option Addr} {cp : Nat} {R : Option Addr} {cr : Nat} {np nr : Nat} (inst fn ans : Int) (lo : Nat) (hi : Int) (has : Bool) (ty : Int) (mu : Bool) (v : Int)
    (hp : grommetlaw16_pick.f what 6 = some 1) (hn : tabOk lo hi has) :
    Calls Try.prog 34 #[.pointer (some ⟨s, 0, none⟩), .pointer (some ⟨m, 0, none⟩), .agg (D14 what n1 at_ P np cp R nr cr inst fn ans lo hi has ty mu v)] w fun e w' => e = .returned (.bool true) ∧ ODone w w' W0 base s m F L N G := by
  obtain ⟨tag, vF, vT, vM, vG, T, M, uF, uT, uX, uM, uG, F', T', M', hS, hM⟩ := h
  have CP := Aside0.mk (fun W : World => grommetlaw16_pick.calls what 6 1 W hp)
  have CT := Aside0.mk (fun W : World => grommetlaw16_table.calls lo hi has true W (table_t hn))
  have hu34 := Try.underlying34
  have hlo : lo ≤ 64 := by have := hn.2.1; omega
  have HS := Aside0.mk hS
  have HM := Aside0.mk hM
  have HW := Aside0.mk hW
  have hml := hM.md.lo
  have hsl := hS.st.lo
  have HN := Aside0.mk hn
  obtain ⟨mo, hmo⟩ : ∃ mo, mo = (if has = true then hi else -1) := ⟨_, rfl⟩
  have HMO := Aside0.mk hmo
  clear hS hM hW hp hn hmo
  go_enter Try.func34, Try.ntmps34
  go_upto_region 2 with (go_at_call 10; (refine (CP.out _).mono ?_); rintro e w1 ⟨rfl, ⟨nd, rfl⟩⟩)
  obtain ⟨w2, hw2⟩ : ∃ w2, w2 = ((w.alloc (Obj.cells (D14 what n1 at_ P np cp R nr cr inst fn ans lo hi has ty mu v) 43)).drewN nd) := ⟨_, rfl⟩
  have r0 : Row w2 w.heap.size 43 (D14 what n1 at_ P np cp R nr cr inst fn ans lo hi has ty mu v) := by rw [hw2]; exact Row.drewN (Row.made w _ _ rfl) nd
  have hB2 : Below w.heap.size w w2 := by rw [hw2]; exact pw_below_drewN (below_alloc (Below.refl _ _) _) _
  rw [← hw2]
  clear hw2 CP
  have b1 : w2.cell? ⟨w.heap.size, 8, none⟩ = some (.int .i64 lo) := r0.cell 8
  have b2 : w2.cell? ⟨w.heap.size, 9, none⟩ = some (.int .i64 hi) := r0.cell 9
  have b3 : w2.cell? ⟨w.heap.size, 10, none⟩ = some (.bool has) := r0.cell 10
  have hsz2 : w.heap.size < w2.heap.size := r0.lt
  have hM2 := HM.out.begin hB2
  have hS2 := HS.out.begin hB2
  have ht0 := tag0_new w tag w.heap.size (Nat.le_refl _)
  obtain ⟨tg, htg⟩ : ∃ t, t = tag0 w tag := ⟨_, rfl⟩
  rw [← htg] at hS2 hM2 ht0
  have CA := Aside0.mk (sh_addTable hS2 (Nat.le_trans hb (Nat.le_of_lt hsz2)) (by omega) lo hi has HN.out)
  have HR0 := Aside0.mk r0
  have HB2 := Aside0.mk hB2
  have HM2 := Aside0.mk hM2
  have HT0 := Aside0.mk ht0
  clear r0 hB2 hM2 hS2 ht0 htg HS HM
  go_upto_region 3 with (go_at_call 9; (refine CA.out.mono ?_); rintro e w3 ⟨rfl, hD3⟩; have HD3 := Aside0.mk hD3; clear hD3)
  obtain ⟨⟨tg1, _, _, _, _, _, _, e1, hS3⟩, hO3⟩ := HD3.out
  have r3 := Row.same HR0.out (hO3.keep hsz2 HT0.out (by omega))
  have hM3 := HM2.out.other hO3 (fun e => hsm e.symm) hsl e1
  have d1 : w3.cell? ⟨w.heap.size, 8, none⟩ = some (.int .i64 lo) := r3.cell 8
  have d2 : w3.cell? ⟨w.heap.size, 9, none⟩ = some (.int .i64 hi) := r3.cell 9
  have d3 : w3.cell? ⟨w.heap.size, 10, none⟩ = some (.bool has) := r3.cell 10
  have hB3 : Below W0.heap.size w w3 := (below_mono HB2.out HW.out.size).trans (hO3.below (Nat.le_trans HW.out.size HB2.out.size) h0 (by omega))
  have hsz3 : w.heap.size < w3.heap.size := Nat.lt_of_lt_of_le hsz2 hO3.size
  have HS3 := Aside0.mk hS3
  have HM3 := Aside0.mk hM3
  have HR3 := Aside0.mk r3
  have HB3 := Aside0.mk hB3
  clear b1 b2 b3 r3 hS3 hM3 hB3 hO3 HD3 CA HR0 HM2 e1 HT0
  go_upto_region 8 with (go_at_call 45; (refine (CT.out _).mono ?_); rintro e w4 ⟨rfl, hB4⟩; have HB4 := Aside0.mk hB4; clear hB4)
  go_loopg [10, 11] lo (fun kq v10 v11 w' => ∃ (j : Nat) (A : Option Addr) (c : Nat), v10 = .slice A j c ∧ v11 = .int .i64 j ∧ j + kq = lo ∧ Aside0 (I64.R 3 w' w3.heap.size (fun _ => True) (.slice A j c) (List.replicate j (-1))) ∧ Aside0 (Below w3.heap.size w3 w'))
  case atStart => exact ⟨0, none, 0, rfl, rfl, by omega, ⟨Kd.R_nil _ _ _ _ _⟩, HB4⟩
  case round =>
    obtain ⟨j, A, c, rfl, rfl, hj, hR, hB⟩ := hrel
    have rr := HR3.out.below hB.out hsz3
    have c1 : wr.cell? ⟨w.heap.size, 8, none⟩ = some (.int .i64 lo) := rr.cell 8
    have c2 : wr.cell? ⟨w.heap.size, 9, none⟩ = some (.int .i64 hi) := rr.cell 9
    have c3 : wr.cell? ⟨w.heap.size, 10, none⟩ = some (.bool has) := rr.cell 10
    clear d1 d2 d3 rr
    cases gk with
    | succ k2 =>
      have hlt2 : ((j : Int) < (lo : Int)) = True := eq_true (by omega)
      go_wp2_with (at_builtin; refine Kd.R_append I64 w3.heap.size rfl (.tmp 46) (.tmp 47) 23 3 (.int .i64 0) 8 rfl Try.underlying23 (by kernel_rfl) rfl (by decide) (by decide) (.slice A j c) (List.replicate j (-1)) (-1) [.int .i64 (-1)] (fun _ => True) (fun _ => False) rfl rfl rfl (fun _ hk => hk.elim) (fun _ _ => trivial) hR.out hB.out hB.out.size (by simp; omega) ?_; rintro v5 w5 hR5 hB5 hg5 hat5; obtain ⟨A5, c5, rfl⟩ := Kd.R_slice hR5; (rw [List.length_append, List.length_singleton, List.length_replicate] at hR5 ⊢); (rw [← List.replicate_succ'] at hR5); have HR5 := Aside0.mk hR5; have HB5 := Aside0.mk hB5; clear hR5 hB5 hg5 hat5)
      go_roundg k2
      case measure => omega
      case rel => exact ⟨j + 1, A5, c5, by simp, by simp, by omega, HR5, HB5⟩
    | zero =>
      obtain rfl : j = lo := by omega
      -- the leaf's tag
      have hS5 := HS3.out.frame (w1 := wr) (tag1 := ext0 w3 tg1 (fun k => blk A = some k) (4 + 2 * L.length)) hB.out.size (hB.out.block _ HS3.out.st.row.lt) (fun k _ hk _ => hB.out.block k hk) (ext0_old _ _ _ _)
      have hM5 := HM3.out.frame (w1 := wr) (tag1 := ext0 w3 tg1 (fun k => blk A = some k) (4 + 2 * L.length)) hB.out.size (hB.out.block _ HM3.out.md.row.lt) (fun k _ hk _ => hB.out.block k hk) (ext0_old _ _ _ _)
      have hlf := lf_new (base := base) (tag := tg1) (t := 4 + 2 * L.length) hR.out (by omega)
      obtain ⟨t5, ht5⟩ : ∃ t, t = ext0 w3 tg1 (fun k => blk A = some k) (4 + 2 * L.length) := ⟨_, rfl⟩
      rw [← ht5] at hS5 hM5 hlf
      obtain ⟨AT, cT, rfl⟩ := Kd.R_slice hM5.md.t
      obtain ⟨AX, cX, rfl⟩ := Kd.R_slice hM5.md.x
      have hBW : Below W0.heap.size w wr := HB3.out.trans (below_mono hB.out (by omega))
      have hszr : base ≤ wr.heap.size := by have := hB.out.size; omega
      have HS5 := Aside0.mk hS5
      have HM5 := Aside0.mk hM5
      have HLF := Aside0.mk hlf
      have HBW := Aside0.mk hBW
      have hTl := Aside0.mk hM5.tl
      have hlT : T'.length ≤ 90 := by rw [hTl.out]; exact hlL
      have p1 : wr.cell? ⟨m, 1, none⟩ = some (.slice AT T'.length cT) := hM5.md.row.cell 1
      have z1 := hM5.md.row.frozen 1
      clear hS5 hM5 hlf hBW ht5 HS3 HM3 HB3 HB4 hR hj
      have hge : ((j : Int) < (j : Int)) = False := eq_false (by omega)
      obtain ⟨X, hX⟩ : ∃ X, X = L.map (·.2) := ⟨_, rfl⟩
      have hmd5 := HM5.out.was
      rw [← hX] at hmd5
      have hXl : X.length ≤ 90 := by rw [hX, List.length_map]; exact hlL
      have hXL : (L.map (·.2)).length = X.length := by rw [hX]
      have HXE := Aside0.mk hX
      have HMD5 := Aside0.mk hmd5
      have ewr : IntKind.i64.wrap (T'.length : Int) = (L.length : Int) := by rw [hTl.out, IntKind.wrap_i64]; omega
      clear hX hmd5 hXL
      cases has
      all_goals
        have e9 := HMO.out
        simp only [if_true, if_false, Bool.false_eq_true] at e9
        subst e9
        go_upto_region 15 with (at_builtin; refine Kd.R_append (w0 := wr) (raw 1) base rfl (.tmp 59) (.tmp 61) 78 23 (.slice none 0 0) 24 rfl Try.underlying78 (by kernel_rfl) rfl (by decide) (by decide) (.slice AT T'.length cT) T' [.slice A j c] [.slice A j c] (fun k => (t5 k = 2 ∧ k < wr.heap.size) ∨ wr.heap.size ≤ k) (fun _ => False) rfl rfl ⟨rfl, rfl, by intro u hu; simp only [List.mem_cons, List.mem_nil_iff, or_false] at hu; rcases hu with rfl <;> rfl⟩ (fun k hk => hk.elim) (fun k hk => .inr hk) (Kd.R_mono HMD5.out.t (fun _ hk => .inl hk)) (Below.refl base _) hszr (by omega) ?_; rintro v6 w6 hR6 hB6 hg6 hat6; obtain ⟨A6, c6, rfl⟩ := Kd.R_slice hR6; (rw [List.length_append, List.length_singleton] at hR6 ⊢); have md6 := Aside0.mk (md_t HMD5.out hR6 hg6 (fun k hk => .inl hk)); have mo6 := Aside0.mk (mo_t HMD5.out (v3 := .slice A6 (T'.length + 1) c6) hg6); have r6 := HMD5.out.row.grown hg6 (fun e => Kd.R_ne HMD5.out.t HMD5.out.row (by decide) e.symm); have q6 := r6.cell 1; have z6 := r6.frozen 1; (simp only [List.getElem?_toArray, List.getElem?_cons_zero, List.getElem?_cons_succ] at q6); clear hR6 hB6 hg6 hat6 r6)
        obtain ⟨w7, hw7⟩ : ∃ w7, w7 = w6.setCell ⟨m, 1, none⟩ (.slice A6 (T'.length + 1) c6) := ⟨_, rfl⟩
        rw [← hw7] at md6 mo6 ⊢
        have p2 : w7.cell? ⟨m, 2, none⟩ = some (.slice AX X.length cX) := md6.out.row.cell 2
        have z2 := md6.out.row.frozen 2
        have hs7 : base ≤ w7.heap.size := Nat.le_trans hszr mo6.out.size
        clear hw7 q6 z6 p1 z1
        go_upto_region 16 with (at_builtin; refine Kd.R_append (w0 := w7) I64 base rfl (.tmp 69) (.tmp 71) 23 3 (.int .i64 0) 8 rfl Try.underlying23 (by kernel_rfl) rfl (by decide) (by decide) (.slice AX X.length cX) X _ _ (fun k => (t5 k = 2 ∧ k < wr.heap.size) ∨ wr.heap.size ≤ k) (fun _ => False) rfl rfl rfl (fun k hk => hk.elim) (fun k hk => .inr (Nat.le_trans mo6.out.size hk)) md6.out.x (Below.refl base _) hs7 (by omega) ?_; rintro v8 w8 hR8 hB8 hg8 hat8; obtain ⟨A8, c8, rfl⟩ := Kd.R_slice hR8; (rw [List.length_append, List.length_singleton] at hR8 ⊢); have md8 := Aside0.mk (md_x md6.out hR8 hg8 (fun k hk => hk)); have mo8 := Aside0.mk (mo_x md6.out (v3 := .slice A8 (X.length + 1) c8) hg8); have r8 := md6.out.row.grown hg8 (fun e => Kd.R_ne md6.out.x md6.out.row (by decide) e.symm); have q8 : w8.cell? ⟨m, 2, none⟩ = _ := r8.cell 2; have z8 := r8.frozen 2; (simp only [List.getElem?_toArray, List.getElem?_cons_zero, List.getElem?_cons_succ] at q8); clear hR8 hB8 hg8 hat8 r8)
        obtain ⟨w9, hw9⟩ : ∃ w9, w9 = w8.setCell ⟨m, 2, none⟩ (.slice A8 (X.length + 1) c8) := ⟨_, rfl⟩
        rw [← hw9] at md8 mo8 ⊢
        have q9 : w9.cell? ⟨m, 1, none⟩ = some (.slice A6 (T'.length + 1) c6) := md8.out.row.cell 1
        clear hw9 q8 z8 p2 z2
        go_wp2
        go_ret
        have hO9 : Only wr w9 (fun k => k = m ∨ (base ≤ k ∧ t5 k = 2)) := Only.chain (mo_was (ok := fun _ => True) mo6.out) mo8.out (fun i hi hk => by
          rcases hk with rfl | ⟨a, b⟩
          · exact .inl rfl
          · rcases b with ⟨b, _⟩ | b
            · exact .inr ⟨a, b⟩
            · omega)
        obtain ⟨⟨tg9, _, _, _, _, _, _, _, _, e10, hM9⟩, hMO9⟩ := mh_addT HM5.out HLF.out (by rw [← HXE.out]; exact md8.out) hO9
        exact ⟨rfl, ⟨F, _, N, G, ⟨_, _, _, _, _, _, _, _, _, _, _, _, _, _, _, HS5.out.other hMO9 hsm hml e10, hM9⟩, by omega, by simp, by omega, by omega⟩, HBW.out.trans (hMO9.below (by have := HBW.out.size; have := HW.out.size; omega) h1 (by omega))⟩
end Go.Proofs.Ytbelijoggbblgaa.Sp
