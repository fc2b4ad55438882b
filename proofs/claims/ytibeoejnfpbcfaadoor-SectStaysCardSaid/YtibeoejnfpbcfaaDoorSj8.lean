/- The law SectStays, walked. -/
import Derived.Test.YtibeoejnfpbcfaaDoorSj4
namespace Go.Proofs.YtibeoejnfpbcfaaDoor.Sx
open Go.RowKit Go.Proofs.YtibeoejnfpbcfaaDoorW.PrintWords Go.Proofs.YtibeoejnfpbcfaaDoorW.PrintLast Go.Proofs.YtibeoejnfpbcfaaDoorW.PrintMore Go.Proofs.YtibeoejnfpbcfaaDoor.RSectSplits Go.Proofs.YtibeoejnfpbcfaaDoor.Leb Go.Proofs.YtibeoejnfpbcfaaDoor.Man
set_option linter.unusedVariables false
set_option linter.unusedSimpArgs false
attribute [local go_sem] err_eql err_neq err_nil_eql err_nil_neq
def secs : Except (Int × Nat) (List S34) → List S34
  | .ok cs => cs
  | .error _ => []
def isOk : Except (Int × Nat) (List S34) → Bool
  | .ok _ => true
  | .error _ => false
/-- Whether an error is nil. -/
structure EN (t : Bool) (e1 : Value) : Prop where
  out : (t = true ∧ e1 = .nilIface) ∨ (t = false ∧ ∃ u v, e1 = .iface u v)
theorem en_nil : EN true .nilIface := ⟨.inl ⟨rfl, rfl⟩⟩
theorem en_iface (t : TypeId) (v : Value) : EN false (.iface t v) := ⟨.inr ⟨rfl, t, v, rfl⟩⟩
theorem ten (r : Except (Int × Nat) (List S34)) (h : ∀ cs, r = .ok cs → cs.length ≤ 128) : (secs r).length ≤ 128 := by
  cases r with
  | ok cs => exact h cs rfl
  | error q => simp [secs]
theorem split_t (W : World) (A : Option Addr) (c : Nat) (l : List Int) (h : U8.C W A l.length l) (hc : l.length ≤ c) (hb : Bytes l) (hl : l.length ≤ 100000) :
    Calls Tryd.prog 9 #[.slice A l.length c] W fun e w' => ∃ A' c' e1, e = .returned (.tuple #[.slice A' (secs (split l)).length c', e1]) ∧ EN (isOk (split l)) e1 ∧ k34.R 34 w' W.heap.size (fun _ => True) (.slice A' (secs (split l)).length c') (secs (split l)) ∧ Below W.heap.size W w' := by
  refine (split_calls W A c l h hc hb hl).mono ?_
  intro e w' hr
  cases hs : split l with
  | ok cs =>
    rw [hs] at hr
    obtain ⟨A', c', rfl, hR, hB⟩ := hr
    exact ⟨A', c', _, rfl, en_nil, hR, hB⟩
  | error q =>
    rw [hs] at hr
    obtain ⟨p, rfl, _, _, _, hB⟩ := hr
    exact ⟨none, 0, _, rfl, en_iface _ _, Kd.R_nil _ _ _ _ _, hB⟩
theorem join_t (W : World) (A : Option Addr) (c : Nat) (l : List S34) (h : k34.C W A l.length l) (hc : l.length ≤ c) (h300 : l.length ≤ 300) (hs : ∀ s ∈ l, s.f2.length ≤ 10000) :
    Calls Tryd.prog 14 #[.slice A l.length c] W fun e w' => ∃ A' c' e1, e = .returned (.tuple #[.slice A' ((joins l).getD []).length c', e1]) ∧ EN (joins l).isSome e1 ∧ U8.C w' A' ((joins l).getD []).length ((joins l).getD []) ∧ (0 < ((joins l).getD []).length → Mk.Out w' W.heap.size (.slice A' ((joins l).getD []).length c') ((joins l).getD [])) ∧ Below W.heap.size W w' := by
  refine (join_calls W A c l h hc h300 hs).mono ?_
  intro e w' hr
  cases hj : joins l with
  | none =>
    rw [hj] at hr
    obtain ⟨A', c', rfl, hB⟩ := hr
    exact ⟨A', c', _, rfl, en_iface _ _, ⟨rfl, by simp, fun hp => absurd hp (by simp)⟩, fun hp => absurd hp (by simp), hB⟩
  | some p =>
    rw [hj] at hr
    obtain ⟨A', c', rfl, hle, hO, hB⟩ := hr
    obtain ⟨A2, c2, he, _, hC⟩ := hO.reads
    injection he with he1 _ _
    subst he1
    exact ⟨A', c', _, rfl, en_nil, hC, fun _ => hO, hB⟩
theorem out_put {w : World} {base : Nat} {A : Option Addr} {c n : Nat} {xs : List Int} (h : Mk.Out w base (.slice A n c) xs) (j : Nat) (hj : j < xs.length) :
    ∃ g, A = some ⟨g, 0, none⟩ ∧ base ≤ g ∧ w.cell? ⟨g, j, none⟩ = some (.int .u8 (xs.getD j 0)) ∧ w.frozen? ⟨g, j, none⟩ = false ∧ ∀ y, Mk.Out (w.setCell ⟨g, j, none⟩ (.int .u8 y)) base (.slice A n c) (xs.set j y) := by
  obtain ⟨g, c', he, hle, hmx, hb, hlt, cs, fr, hh, hc, hf⟩ := h
  injection he with he1 he2 he3
  subst he1 he3
  refine ⟨g, rfl, hb, ?_, hf j hj, fun y => ⟨⟨g, c, by rw [List.length_set, he2], by rw [List.length_set]; exact hle, by rw [List.length_set]; exact hmx, hb, by simpa [World.setCell] using hlt, cs.setIfInBounds j (.int .u8 y), fr, by simp [World.setCell, Array.getElem?_modify, hh], fun i hi => ?_, fun i hi => ?_⟩⟩⟩
  · rw [cell_of_row w g j cs 5 fr hh]; exact hc j hj
  · rw [List.length_set] at hi
    have k := hc i hi
    by_cases hij : j = i
    · subst hij
      have hsz : j < cs.size := (Array.getElem?_eq_some_iff.1 k).1
      simp [Array.getElem?_setIfInBounds, hsz, List.getD, hi]
    · rw [Array.getElem?_setIfInBounds, if_neg hij, k]
      simp [List.getD, List.getElem?_set, hij]
  · rw [List.length_set] at hi
    have k := hf i hi
    simp only [World.frozen?, hh] at k
    simp only [World.frozen?, World.setCell, Array.getElem?_modify, hh, if_pos, Option.map_some]
    exact k
theorem take_next (l : List S34) (i : Int) (h0 : 0 ≤ i) (h : i < (l.length : Int)) : l.take (i + 1).toNat = l.take i.toNat ++ [rd_T34 l i] := by
  obtain ⟨j, rfl⟩ := Int.eq_ofNat_of_zero_le h0
  have hj : j < l.length := by omega
  rw [show ((j : Int) + 1).toNat = j + 1 by omega, Int.toNat_natCast, List.take_succ_eq_append_getElem hj]
  congr 1
  unfold rd_T34
  rw [Int.toNat_natCast, List.getD_eq_getElem?_getD, List.getElem?_eq_getElem hj]
  rfl
def stays_T17 : Bool × List (List Nat × List Nat) := (true, [([], []), ([], []), ([], []), ([1, 2], [1, 2]), ([3], [3]), ([4], [4]), ([], []), ([], []), ([6, 7], [6, 7]), ([8], [8]), ([9], [9]), ([], []), ([], []), ([], []), ([12, 13], [12, 13]), ([14], [14]), ([15], [15]), ([11, 16], [11, 16]), ([5, 10, 17], [5, 10, 17]), ([18], [18]), ([0, 19, 17], [0, 19]), ([20, 20, 0, 1, 2, 3, 4, 5, 6, 7, 8, 9, 10, 11, 12, 13, 14, 15, 16, 17, 18, 19, 20], [0, 20])])
def stays_B17 : List Nat := [0, 0, 0, 6, 14, 30, 0, 0, 192, 448, 960, 0, 0, 0, 12288, 28672, 61440, 129024, 262142, 524286, 1048575, 2097151]
theorem stays_tab17 : rtab .any (opsOf Tryd.f6 17) = stays_T17 := by kernel_rfl
theorem stays_bits17 : waitsOk stays_T17.2 stays_B17 = true := by kernel_rfl
set_option maxRecDepth 100000 in
set_option maxHeartbeats 16000000 in
theorem stays_in (w : World) (hG : GL w) (A0 : Option Addr) (c0 : Nat) (l0 : List S34) (hA : k34.C w A0 l0.length l0) (hc : l0.length ≤ c0) (A1 : Option Addr) (c1 : Nat) (l1 : List Int) (hB : U8.C w A1 l1.length l1) (hd : l1.length ≤ c1) (bb : Bytes l1) (lb : l1.length ≤ 3000) (h300 : l0.length ≤ 300) (hs : ∀ s ∈ l0, s.f2.length ≤ 10000) (hsm : grommetlaw07_small.f (l0.length + 1) l0 = some true) :
    Calls Tryd.prog 6 #[.slice A0 l0.length c0, .slice A1 l1.length c1] w fun e w' => e = .returned (.bool true) ∧ Below w.heap.size w w' := by
  have HG := Aside0.mk hG
  have HR0 := Aside0.mk hA
  have HC0 := Aside0.mk hc
  have HR1 := Aside0.mk hB
  have HS := Aside0.mk hs
  have HL := Aside0.mk (And.intro lb h300)
  have CS := Aside0.mk (show ∀ W5 : World, Below w.heap.size w W5 → Calls Tryd.prog 13 #[.slice A0 l0.length c0] W5 fun e w' => e = .returned (.bool true) ∧ Drawn0 W5 w' from
    fun W5 h5 => grommetlaw07_small.calls _ A0 c0 l0 true W5 (Kd.C_below hA h5) hc hsm)
  obtain ⟨rs, hrs⟩ : ∃ r, r = split l1 := ⟨_, rfl⟩
  have r128 : (secs rs).length ≤ 128 := ten rs (fun cs h => split_len (hrs ▸ h))
  have CO := Aside0.mk (show ∀ (W5 : World) (A5 : Option Addr) (c5 : Nat), U8.C W5 A5 l1.length l1 → l1.length ≤ c5 → Calls Tryd.prog 9 #[.slice A5 l1.length c5] W5 fun e w' => ∃ A' c' e1, e = .returned (.tuple #[.slice A' (secs rs).length c', e1]) ∧ EN (isOk rs) e1 ∧ k34.R 34 w' W5.heap.size (fun _ => True) (.slice A' (secs rs).length c') (secs rs) ∧ Below W5.heap.size W5 w' from
    fun W5 A5 c5 h5 hc5 => by rw [hrs]; exact split_t W5 A5 c5 l1 h5 hc5 bb (by omega))
  obtain ⟨ks, hks⟩ : ∃ k, k = secs rs := ⟨_, rfl⟩
  obtain ⟨tk, htk⟩ : ∃ t, t = isOk rs := ⟨_, rfl⟩
  rw [← hks, ← htk] at CO
  rw [← hks] at r128
  obtain ⟨ps, hps⟩ : ∃ p, p = (joins l0).getD [] := ⟨_, rfl⟩
  obtain ⟨tj, htj⟩ : ∃ t, t = (joins l0).isSome := ⟨_, rfl⟩
  have CJ := Aside0.mk (show ∀ (W5 : World) (A5 : Option Addr) (c5 : Nat), k34.C W5 A5 l0.length l0 → l0.length ≤ c5 → Calls Tryd.prog 14 #[.slice A5 l0.length c5] W5 fun e w' => ∃ A' c' e1, e = .returned (.tuple #[.slice A' ps.length c', e1]) ∧ EN tj e1 ∧ U8.C w' A' ps.length ps ∧ (0 < ps.length → Mk.Out w' W5.heap.size (.slice A' ps.length c') ps) ∧ Below W5.heap.size W5 w' from
    fun W5 A5 c5 h5 hc5 => by rw [hps, htj]; exact join_t W5 A5 c5 l0 h5 hc5 h300 hs)
  have plen : ps.length ≤ 2000000 := by
    rw [hps]
    cases hj : joins l0 with
    | none => simp
    | some p =>
      unfold joins at hj
      split at hj
      · cases hj
      · have k := jn_len l0 0 magic p 10000 hs (by omega) hj
        have e : magic.length = 8 := rfl
        have : (6 + 10000) * l0.length ≤ 10006 * 128 := Nat.mul_le_mul_left _ (by omega)
        simp only [Option.getD_some]
        omega
  have HPL := Aside0.mk plen
  have CK := Aside0.mk (show ∀ (W5 : World) (A5 : Option Addr) (c5 : Nat) (A6 : Option Addr) (c6 : Nat), k34.C W5 A5 ks.length ks → ks.length ≤ c5 → k34.C W5 A6 ks.length ks → ks.length ≤ c6 → Calls Tryd.prog 12 #[.slice A5 ks.length c5, .slice A6 ks.length c6] W5 fun e w' => e = .returned (.bool true) ∧ Drawn0 W5 w' from
    fun W5 A5 c5 A6 c6 h5 hc5 h6 hc6 => grommetref07_Same.calls _ A5 c5 ks A6 c6 ks true W5 h5 hc5 h6 hc6 (same_self ks (by omega)))
  have CM := Aside0.mk (show ∀ (W5 : World) (A5 : Option Addr) (c5 : Nat), k34.C W5 A5 l0.length l0 → l0.length ≤ c5 → Below w.heap.size w W5 → Calls Tryd.prog 12 #[.slice A5 l0.length c5, .slice A0 l0.length c0] W5 fun e w' => e = .returned (.bool true) ∧ ∃ m, w' = W5.drewN m from
    fun W5 A5 c5 h5 hc5 h6 => (grommetref07_Same.calls _ A5 c5 l0 A0 c0 l0 true W5 h5 hc5 (Kd.C_below hA h6) hc (same_self l0 (by omega))).mono fun e w' h => ⟨h.1, h.2.out⟩)
  have g1 : decide ((3000 : Int) < (l1.length : Int)) = false := decide_eq_false (by omega)
  have g1' : ((3000 : Int) < (l1.length : Int)) = False := eq_false (by omega)
  clear hG hA hB bb lb h300 hs hsm hrs hks htk hps htj r128 plen
  go_enter Tryd.func6, Tryd.ntmps6
  go_upto_region 5 with (first
      | (go_at_call 8; (refine (grommetlaw07_up.calls true _ HG.out rfl).mono ?_); rintro e w1 ⟨rfl, hB1⟩; have HB1 := Aside0.mk hB1; clear hB1)
      | (go_at_call 13; (with_reducible refine (CS.out _ HB1.out).mono ?_); rintro e w2 ⟨rfl, hD2⟩; have HB2 := Aside0.mk (HB1.out.trans (hD2.below.mono HB1.out.size)); clear hD2))
  go_upto_region 7 with (first
      | ((with_reducible refine gate_dst (N := 33) rfl ?_); refine Kd.R_lit (Kd.int .u8) _ 5 ?hg (N := 33) ?hd (xs := ([] : List Int)) (inner := []) (ok := fun _ => True) (okp := fun _ => True) ?hr ?hp (fun _ hk => hk) trivial (Below.refl _ _) (Nat.le_refl _) (by simp) ?_; (case hd => rfl); (case hg => rfl); (case hr => first | (go_simp; done) | (go_simp; rfl)); (case hp => exact (Reps.none _ _)); intro v33 w3 ho hb hg_ hnew_; clear hg_ hnew_; have HO3 := Aside0.mk ho; have HB3 := Aside0.mk hb; clear ho hb)
      | ((with_reducible refine gate_builtin (b := .append) (xs := #[.tmp 33, .tmp 34]) rfl ?_); at_builtin; refine Kd.R_append_rows (Kd.int .u8) (w0 := w2) w2.heap.size rfl (.tmp 33) (.tmp 34) 22 5 (.int .u8 0) 1 rfl Tryd.underlying22 info5 rfl (by decide) (by omega) v33 ([] : List Int) l1 _ _ _ (fun _ => True) (fun _ => False) rfl rfl ?aO ?aR (fun _ _ h => h) (fun _ h => h.elim) ?aF ?aB ?aS ?aL ?_; (case aR => exact (Kd.C_below (Kd.C_below HR1.out HB2.out) (by repeat (first | exact HB3.out | apply below_alloc | apply pw_below_drewN | apply below_drew)))); (case aB => exact (by repeat (first | exact HB3.out | apply below_alloc | apply pw_below_drewN | apply below_drew))); (case aF => exact (fun _ _ => trivial)); (case aO => exact (by (with_reducible repeat (first | apply Kd.R_alloc | apply Kd.R_drewN | apply Kd.R_drew)); exact HO3.out)); (case aS => exact (below_size (by repeat (first | exact HB3.out | apply below_alloc | apply pw_below_drewN | apply below_drew)))); (case aL => (have := HL.out.1; simp; omega)); intro v35 w4 ho hb hg hat; have ho2 := ho; rw [List.nil_append] at ho2; obtain ⟨Ao, co, eo⟩ := Kd.R_slice ho2; subst eo; have HO4 := Aside0.mk ho2; have HB4 := Aside0.mk hb; clear ho ho2 hb hg hat)
      | (go_at_call 9; (with_reducible refine (CO.out _ Ao co (Kd.R_reads' HO4.out).2.2 (Kd.R_reads' HO4.out).2.1).mono ?_); rintro e w5 ⟨A5, c5, e5, rfl, hE5, hR5, hB5⟩; have En5 := Aside0.mk hE5; have HK5 := Aside0.mk hR5; have HB5 := Aside0.mk hB5; clear hE5 hR5 hB5))
  obtain ⟨_, lck, _⟩ := Kd.R_reads' HK5.out
  have HKC := Aside0.mk lck
  have HKR := Aside0.mk (Kd.R_mono (ok' := fun k => w4.heap.size ≤ k) (Kd.R_bound HK5.out) (fun k hk => hk.2.1))
  have HO5 := Aside0.mk (Kd.R_below HO4.out HB5.out)
  have HG4 := Aside0.mk (Kd.R_lt HO4.out)
  have HBW := Aside0.mk (HB2.out.trans ((HB4.out.trans (HB5.out.mono HB4.out.size)).mono HB2.out.size))
  have S54 := Aside0.mk HB5.out.size
  have S42 := Aside0.mk HB4.out.size
  have SW2 := Aside0.mk HB2.out.size
  clear HO3 HO4 HB3 HK5 lck
  go_wp2_with fail
  go_loopg [10] l1.length (fun kq v10 w' => ∃ (j : Nat) (xs : List Int), v10 = .int .i64 (j : Int) ∧ j + kq = l1.length ∧ xs.length = l1.length ∧ Aside0 (U8.R 5 w' w2.heap.size (fun _ => True) (.slice Ao l1.length co) xs) ∧ Aside0 (k34.R 34 w' w4.heap.size (fun k => w4.heap.size ≤ k) (.slice A5 ks.length c5) ks) ∧ Aside0 (Below w.heap.size w w'))
  case atStart => exact ⟨0, l1, rfl, by omega, rfl, HO5, HKR, HBW⟩
  case round =>
    obtain ⟨j, xs, rfl, hj, hxl, HX, HKx, HBx⟩ := hrel
    cases gk with
    | succ k2 =>
      have l1j : ((j : Int) < (l1.length : Int)) = True := eq_true (by omega)
      have i0 : (0 : Int) ≤ (j : Int) := by omega
      have ej : wrap64 ((j : Int) + 1) = (j : Int) + 1 := by have := HL.out.1; unfold wrap64; omega
      obtain ⟨g, cap, he, hg, hlt, cells, hcg⟩ := Kd.R_form HX.out (by omega)
      injection he with he1 he2 he3
      have hg4 : g < w4.heap.size := HG4.out g (by rw [he1]; rfl)
      have HX2 : U8.R 5 wr w2.heap.size (fun _ => True) (.slice (some ⟨g, 0, none⟩) xs.length cap) xs := by have z := HX.out; rw [he1, he3] at z; rw [hxl]; exact z
      obtain ⟨hcell, hfr⟩ := Kd.R_cell (0 : Int) HX2 (j : Int) i0 (by omega)
      rw [Int.toNat_natCast] at hcell hfr
      obtain ⟨x, hx⟩ : ∃ x, x = rdOf (0 : Int) xs (j : Int) := ⟨_, rfl⟩
      rw [← hx] at hcell
      have HX3 := Aside0.mk HX2
      have HGF := Aside0.mk (And.intro he1 (And.intro he3 (And.intro hg hg4)))
      have he1' := he1
      subst he1'
      have HXL := Aside0.mk hxl
      clear HX2 hcg he1 he2 he3 hx hlt hxl hg hg4
      go_wp2_with fail
      go_roundg k2
      case measure => omega
      case rel =>
        refine ⟨j + 1, xs.set j ?yqq, by first | rfl | (rw [ej]; rfl), by omega, by rw [List.length_set]; exact HXL.out, ⟨?aqq⟩, ⟨?bqq⟩, ⟨?cqq⟩⟩
        case aqq =>
          have z := (Kd.R_put HX3.out (j : Int) ?yqq).1
          rw [Int.toNat_natCast, HXL.out] at z
          rw [HGF.out.2.1]
          exact z
        case bqq => exact Kd.R_far HKx.out (fun k hk => by have := HGF.out.2.2.2; show k ≠ g; omega) _
        case cqq => exact HBx.out.setCell (p := ⟨g, j, none⟩) (by have := HGF.out.2.2.1; have := SW2.out; show w.heap.size ≤ g; omega) _
    | zero =>
      have l1j : ((j : Int) < (l1.length : Int)) = False := eq_false (by omega)
      clear HX hxl hj HO5 HKR
      go_upto_region 12 with (go_at_call 9; (with_reducible refine (CO.out _ A1 c1 (Kd.C_below HR1.out HBx.out) hd).mono ?_); rintro e w6 ⟨A6, c6, e6, rfl, hE6, hR6, hB6⟩; have En6 := Aside0.mk hE6; have HK6 := Aside0.mk (Kd.R_reads' hR6); have HB6i := Aside0.mk hB6; have HB6 := Aside0.mk (HBx.out.trans (hB6.mono HBx.out.size)); clear hE6 hR6 hB6)
      have HKC6 := Aside0.mk (Kd.R_reads' (Kd.R_below HKx.out HB6i.out)).2.2
      go_wp2_with (go_at_call 12; (with_reducible refine (CK.out _ _ _ _ _ HKC6.out HKC.out HK6.out.2.2 HK6.out.2.1).mono ?_); rintro e w7 ⟨rfl, hD7⟩; have HB7 := Aside0.mk (HB6.out.trans (hD7.below.mono HB6.out.size)); clear hD7)
      go_loopg [14, 15] l0.length (fun kq v14 v15 w' => ∃ (x14_1 : List S34) (x15_1 : Int), v15 = .int .i64 x15_1 ∧ 0 ≤ x15_1 ∧ (kq : Int) + x15_1 = (l0.length : Int) ∧ Aside0 (x14_1 = l0.take x15_1.toNat) ∧ Aside0 (Kd.S k34 34 w' w.heap.size (fun _ => True) v14 x14_1) ∧ Aside0 (Below w.heap.size w w'))
      case atStart => exact ⟨[], 0, rfl, by omega, by omega, ⟨rfl⟩, ⟨Kd.S_nil _ _ _ _ _⟩, HB7⟩
      case round =>
        obtain ⟨x14_1, x15_1, rfl, h15, hk15, HX14, HO_14, HB⟩ := hrel
        clear HKx HKC6 HB6 HB6i HB7 HBx
        cases gk with
        | succ k1 =>
          have c3b0 : decide (x15_1 < (l0.length : Int)) = true := decide_eq_true (by omega)
          have c4b0 : decide (0 ≤ x15_1) = true := decide_eq_true h15
          obtain ⟨y159, hy159⟩ : ∃ y_ : List Int, y_ = (([] : List Int)) := ⟨_, rfl⟩
          have f2l : (rd_T34 l0 x15_1).f2.length ≤ 10000 := by
            obtain ⟨jj, hjj⟩ := Int.eq_ofNat_of_zero_le h15
            rw [hjj]
            exact HS.out _ (rd_mem34 l0 jj (by omega))
          have LMc5 := Aside0.mk (show y159.length + ((rd_T34 l0 x15_1).f2).length < 140737488355328 by rw [hy159]; simp; omega)
          have Ny159 := Aside0.mk hy159
          obtain ⟨y163, hy163⟩ : ∃ y_ : List Int, y_ = (y159 ++ ((rd_T34 l0 x15_1).f2)) := ⟨_, rfl⟩
          have Ny163 := Aside0.mk hy163
          have LMc6 := Aside0.mk (show x14_1.length < 3518437208883 by rw [HX14.out, List.length_take]; have := HL.out.2; omega)
          obtain ⟨y166, hy166⟩ : ∃ y_ : List (S34), y_ = (x14_1 ++ [(⟨(rd_T34 l0 x15_1).f0, (rd_T34 l0 x15_1).f1, y163⟩ : S34)]) := ⟨_, rfl⟩
          have Ny166 := Aside0.mk hy166
          have HY := Aside0.mk (show y166 = l0.take (x15_1 + 1).toNat by
            rw [hy166, hy163, hy159, List.nil_append, take_next l0 x15_1 h15 (by omega), ← HX14.out])
          have HK15 := Aside0.mk (And.intro h15 hk15)
          clear hy159 hy163 hy166 f2l h15 hk15
          try go_wp2_with fail
          have n0_ := Aside0.mk (Kd.S_drew HO_14.out)
          have n1_ := Aside0.mk (below_drew1 HB.out)
          clear HO_14
          clear HB
          have HO_14 := n0_
          have HB := n1_
          clear n0_ n1_
          have p157 : 0 ≤ (x15_1 : Int) := of_decide_eq_true (by first | (with_reducible assumption) | assumption)
          have q157 : x15_1 < (l0.length : Int) := of_decide_eq_true (by first | (with_reducible assumption) | assumption)
          obtain ⟨ad157, A157_2, c157_2, e157, hx157_0, hx157_1, hx157_2, hl157_2, hi157_2⟩ := at_T34 HR0.out x15_1 p157 q157
          have hw157_2 := hx157_2
          have hw157_1 := hx157_1
          have hw157_0 := hx157_0
          cases e157
          replace hx157_0 := (HB.out.cell (World.block_lt_of_cell? w _ hx157_0)).trans hx157_0
          replace hx157_1 := (HB.out.cell (World.block_lt_of_cell? w _ hx157_1)).trans hx157_1
          replace hx157_2 := (HB.out.cell (World.block_lt_of_cell? w _ hx157_2)).trans hx157_2
          have HR157_2 := Aside0.mk hi157_2
          have HC157_2 := Aside0.mk hl157_2
          clear hi157_2 hl157_2
          replace p157 := eq_true p157
          replace q157 := eq_true q157
          have p158 : 0 ≤ (x15_1 : Int) := of_decide_eq_true (by first | (with_reducible assumption) | assumption)
          have q158 : x15_1 < (l0.length : Int) := of_decide_eq_true (by first | (with_reducible assumption) | assumption)
          obtain ⟨ad158, A158_2, c158_2, e158, hx158_0, hx158_1, hx158_2, hl158_2, hi158_2⟩ := at_T34 HR0.out x15_1 p158 q158
          have hw158_2 := hx158_2
          have hw158_1 := hx158_1
          have hw158_0 := hx158_0
          obtain rfl : ad157 = ad158 := (by injection e158)
          replace hx158_0 := (HB.out.cell (World.block_lt_of_cell? w _ hx158_0)).trans hx158_0
          replace hx158_1 := (HB.out.cell (World.block_lt_of_cell? w _ hx158_1)).trans hx158_1
          replace hx158_2 := (HB.out.cell (World.block_lt_of_cell? w _ hx158_2)).trans hx158_2
          have HR158_2 := Aside0.mk hi158_2
          have HC158_2 := Aside0.mk hl158_2
          clear hi158_2 hl158_2
          replace p158 := eq_true p158
          replace q158 := eq_true q158
          have ea_ := Option.some.inj (hx157_2.symm.trans hx158_2)
          injection ea_ with ea_ en_ ec_
          subst ea_
          subst ec_
          clear en_
          have p162 : 0 ≤ (x15_1 : Int) := of_decide_eq_true (by first | (with_reducible assumption) | assumption)
          have q162 : x15_1 < (l0.length : Int) := of_decide_eq_true (by first | (with_reducible assumption) | assumption)
          obtain ⟨ad162, A162_2, c162_2, e162, hx162_0, hx162_1, hx162_2, hl162_2, hi162_2⟩ := at_T34 HR0.out x15_1 p162 q162
          have hw162_2 := hx162_2
          have hw162_1 := hx162_1
          have hw162_0 := hx162_0
          obtain rfl : ad157 = ad162 := (by injection e162)
          replace hx162_0 := (HB.out.cell (World.block_lt_of_cell? w _ hx162_0)).trans hx162_0
          replace hx162_1 := (HB.out.cell (World.block_lt_of_cell? w _ hx162_1)).trans hx162_1
          replace hx162_2 := (HB.out.cell (World.block_lt_of_cell? w _ hx162_2)).trans hx162_2
          have HR162_2 := Aside0.mk hi162_2
          have HC162_2 := Aside0.mk hl162_2
          clear hi162_2 hl162_2
          replace p162 := eq_true p162
          replace q162 := eq_true q162
          have ea_ := Option.some.inj (hx157_2.symm.trans hx162_2)
          injection ea_ with ea_ en_ ec_
          subst ea_
          subst ec_
          clear en_
          refine start_ (n := 22) (S := fun w' => w'.cell? (ad157.add ((x15_1).toNat * 3)) = some (.int .i64 ((rd_T34 l0 x15_1).f0)) ∧ w'.cell? ⟨(ad157.add ((x15_1).toNat * 3)).block, (ad157.add ((x15_1).toNat * 3)).off + 1, none⟩ = some (.int .i64 ((rd_T34 l0 x15_1).f1)) ∧ w'.cell? ⟨(ad157.add ((x15_1).toNat * 3)).block, (ad157.add ((x15_1).toNat * 3)).off + 2, none⟩ = some (.slice A157_2 ((rd_T34 l0 x15_1).f2).length c157_2) ∧ w'.cell? (ad157.add ((x15_1).toNat * 3)) = some (.int .i64 ((rd_T34 l0 x15_1).f0)) ∧ w'.cell? ⟨(ad157.add ((x15_1).toNat * 3)).block, (ad157.add ((x15_1).toNat * 3)).off + 1, none⟩ = some (.int .i64 ((rd_T34 l0 x15_1).f1)) ∧ w'.cell? ⟨(ad157.add ((x15_1).toNat * 3)).block, (ad157.add ((x15_1).toNat * 3)).off + 2, none⟩ = some (.slice A157_2 ((rd_T34 l0 x15_1).f2).length c157_2) ∧ w'.cell? (ad157.add ((x15_1).toNat * 3)) = some (.int .i64 ((rd_T34 l0 x15_1).f0)) ∧ w'.cell? ⟨(ad157.add ((x15_1).toNat * 3)).block, (ad157.add ((x15_1).toNat * 3)).off + 1, none⟩ = some (.int .i64 ((rd_T34 l0 x15_1).f1)) ∧ w'.cell? ⟨(ad157.add ((x15_1).toNat * 3)).block, (ad157.add ((x15_1).toNat * 3)).off + 2, none⟩ = some (.slice A157_2 ((rd_T34 l0 x15_1).f2).length c157_2)) (ds := []) #[false, false, false, false, false, false, false, false, false, false, false, false, false, false, false, false, false, false, false, false, false, false] (by kernel_rfl) rfl rfl ⟨((HB.out.cell (World.block_lt_of_cell? w _ hw157_0)).trans hw157_0), ((HB.out.cell (World.block_lt_of_cell? w _ hw157_1)).trans hw157_1), ((HB.out.cell (World.block_lt_of_cell? w _ hw157_2)).trans hw157_2), ((HB.out.cell (World.block_lt_of_cell? w _ hw158_0)).trans hw158_0), ((HB.out.cell (World.block_lt_of_cell? w _ hw158_1)).trans hw158_1), ((HB.out.cell (World.block_lt_of_cell? w _ hw158_2)).trans hw158_2), ((HB.out.cell (World.block_lt_of_cell? w _ hw162_0)).trans hw162_0), ((HB.out.cell (World.block_lt_of_cell? w _ hw162_1)).trans hw162_1), ((HB.out.cell (World.block_lt_of_cell? w _ hw162_2)).trans hw162_2)⟩ (fun hHeld => ?_); refine with_tabW stays_tab17 stays_bits17 (fun HT_ HW_ => ?_)
          generalize wr.drew = w7 at HO_14 HB HR157_2 HR158_2 HR162_2 hx157_0 hx157_1 hx157_2 hx158_0 hx158_1 hx158_2 hx162_0 hx162_1 hx162_2 hHeld ⊢
          refine pure_ (i := 0) (N := some 69) (v := ?_) (a' := ?_) #[true, false, false, false, false, false, false, false, false, false, false, false, false, false, false, false, false, false, false, false, false, false] rfl rfl (any_of HT_.out (by kernel_rfl)) (fun _ _ _ h => h) (Or.inl ⟨by rfl, ?_⟩) ?_ ?_
          rotate_left
          · intro w'
            go_simp
            with_reducible rfl
          rotate_left
          · simp only [Act.put, List.setIfInBounds_toArray, List.set_cons_zero, List.set_cons_succ, i64_w, i32_w]
            rfl
          refine pure_ (i := 1) (N := some 70) (v := ?_) (a' := ?_) #[true, true, false, false, false, false, false, false, false, false, false, false, false, false, false, false, false, false, false, false, false, false] rfl rfl (any_of HT_.out (by kernel_rfl)) (fun _ _ _ h => h) (Or.inl ⟨by rfl, ?_⟩) ?_ ?_
          rotate_left
          · intro w'
            go_simp
            with_reducible rfl
          rotate_left
          · simp only [Act.put, List.setIfInBounds_toArray, List.set_cons_zero, List.set_cons_succ, i64_w, i32_w]
            rfl
          refine pure_ (i := 2) (N := some 71) (v := ?_) (a' := ?_) #[true, true, true, false, false, false, false, false, false, false, false, false, false, false, false, false, false, false, false, false, false, false] rfl rfl (any_of HT_.out (by kernel_rfl)) (fun _ _ _ h => h) (Or.inl ⟨by rfl, ?_⟩) ?_ ?_
          rotate_left
          · intro w'
            go_simp
            with_reducible rfl
          rotate_left
          · simp only [Act.put, List.setIfInBounds_toArray, List.set_cons_zero, List.set_cons_succ, i64_w, i32_w]
            rfl
          refine pure_ (i := 3) (N := some 72) (v := ?_) (a' := ?_) #[true, true, true, true, false, false, false, false, false, false, false, false, false, false, false, false, false, false, false, false, false, false] rfl rfl (any_of HT_.out (by kernel_rfl)) (fun _ _ _ h => h) (Or.inl ⟨by rfl, ?_⟩) ?_ ?_
          rotate_left
          · intro w'
            go_simp
            with_reducible rfl
          rotate_left
          · simp only [Act.put, List.setIfInBounds_toArray, List.set_cons_zero, List.set_cons_succ, i64_w, i32_w]
            rfl
          refine pure_ (i := 4) (N := some 73) (v := ?_) (a' := ?_) #[true, true, true, true, true, false, false, false, false, false, false, false, false, false, false, false, false, false, false, false, false, false] rfl rfl (any_of HT_.out (by kernel_rfl)) (fun _ _ _ h => h) (Or.inl ⟨by rfl, ?_⟩) ?_ ?_
          rotate_left
          · intro w'
            go_simp
            with_reducible rfl
          rotate_left
          · simp only [Act.put, List.setIfInBounds_toArray, List.set_cons_zero, List.set_cons_succ, i64_w, i32_w]
            rfl
          refine pure_ (i := 6) (N := some 75) (v := ?_) (a' := ?_) #[true, true, true, true, true, false, true, false, false, false, false, false, false, false, false, false, false, false, false, false, false, false] rfl rfl (any_of HT_.out (by kernel_rfl)) (fun _ _ _ h => h) (Or.inl ⟨by rfl, ?_⟩) ?_ ?_
          rotate_left
          · intro w'
            go_simp
            with_reducible rfl
          rotate_left
          · simp only [Act.put, List.setIfInBounds_toArray, List.set_cons_zero, List.set_cons_succ, i64_w, i32_w]
            rfl
          refine pure_ (i := 7) (N := some 76) (v := ?_) (a' := ?_) #[true, true, true, true, true, false, true, true, false, false, false, false, false, false, false, false, false, false, false, false, false, false] rfl rfl (any_of HT_.out (by kernel_rfl)) (fun _ _ _ h => h) (Or.inl ⟨by rfl, ?_⟩) ?_ ?_
          rotate_left
          · intro w'
            go_simp
            with_reducible rfl
          rotate_left
          · simp only [Act.put, List.setIfInBounds_toArray, List.set_cons_zero, List.set_cons_succ, i64_w, i32_w]
            rfl
          refine pure_ (i := 8) (N := some 77) (v := ?_) (a' := ?_) #[true, true, true, true, true, false, true, true, true, false, false, false, false, false, false, false, false, false, false, false, false, false] rfl rfl (any_of HT_.out (by kernel_rfl)) (fun _ _ _ h => h) (Or.inl ⟨by rfl, ?_⟩) ?_ ?_
          rotate_left
          · intro w'
            go_simp
            with_reducible rfl
          rotate_left
          · simp only [Act.put, List.setIfInBounds_toArray, List.set_cons_zero, List.set_cons_succ, i64_w, i32_w]
            rfl
          refine pure_ (i := 9) (N := some 78) (v := ?_) (a' := ?_) #[true, true, true, true, true, false, true, true, true, true, false, false, false, false, false, false, false, false, false, false, false, false] rfl rfl (any_of HT_.out (by kernel_rfl)) (fun _ _ _ h => h) (Or.inl ⟨by rfl, ?_⟩) ?_ ?_
          rotate_left
          · intro w'
            go_simp
            with_reducible rfl
          rotate_left
          · simp only [Act.put, List.setIfInBounds_toArray, List.set_cons_zero, List.set_cons_succ, i64_w, i32_w]
            rfl
          refine pure_ (i := 12) (N := some 81) (v := ?_) (a' := ?_) #[true, true, true, true, true, false, true, true, true, true, false, false, true, false, false, false, false, false, false, false, false, false] rfl rfl (any_of HT_.out (by kernel_rfl)) (fun _ _ _ h => h) (Or.inl ⟨by rfl, ?_⟩) ?_ ?_
          rotate_left
          · intro w'
            go_simp
            with_reducible rfl
          rotate_left
          · simp only [Act.put, List.setIfInBounds_toArray, List.set_cons_zero, List.set_cons_succ, i64_w, i32_w]
            rfl
          refine pure_ (i := 13) (N := some 82) (v := ?_) (a' := ?_) #[true, true, true, true, true, false, true, true, true, true, false, false, true, true, false, false, false, false, false, false, false, false] rfl rfl (any_of HT_.out (by kernel_rfl)) (fun _ _ _ h => h) (Or.inl ⟨by rfl, ?_⟩) ?_ ?_
          rotate_left
          · intro w'
            go_simp
            with_reducible rfl
          rotate_left
          · simp only [Act.put, List.setIfInBounds_toArray, List.set_cons_zero, List.set_cons_succ, i64_w, i32_w]
            rfl
          refine pure_ (i := 14) (N := some 83) (v := ?_) (a' := ?_) #[true, true, true, true, true, false, true, true, true, true, false, false, true, true, true, false, false, false, false, false, false, false] rfl rfl (any_of HT_.out (by kernel_rfl)) (fun _ _ _ h => h) (Or.inl ⟨by rfl, ?_⟩) ?_ ?_
          rotate_left
          · intro w'
            go_simp
            with_reducible rfl
          rotate_left
          · simp only [Act.put, List.setIfInBounds_toArray, List.set_cons_zero, List.set_cons_succ, i64_w, i32_w]
            rfl
          refine pure_ (i := 15) (N := some 84) (v := ?_) (a' := ?_) #[true, true, true, true, true, false, true, true, true, true, false, false, true, true, true, true, false, false, false, false, false, false] rfl rfl (any_of HT_.out (by kernel_rfl)) (fun _ _ _ h => h) (Or.inl ⟨by rfl, ?_⟩) ?_ ?_
          rotate_left
          · intro w'
            go_simp
            with_reducible rfl
          rotate_left
          · simp only [Act.put, List.setIfInBounds_toArray, List.set_cons_zero, List.set_cons_succ, i64_w, i32_w]
            rfl
          refine take_ (i := 5) (N := some 74) (v := ?_) (a' := ?_) #[true, true, true, true, true, true, true, true, true, true, false, false, true, true, true, true, false, false, false, false, false, false] rfl rfl (take_ofW HT_.out HW_.out (by kernel_rfl)) (fun _ _ _ h => h) (Or.inl ⟨by rfl, ?_⟩) hHeld ?_ ?_
          rotate_left
          · rintro w' ⟨s0, s1, s2, s3, s4, s5, s6, s7, s8⟩
            go_simp
            with_reducible rfl
          rotate_left
          · simp only [Act.put, List.setIfInBounds_toArray, List.set_cons_zero, List.set_cons_succ, i64_w, i32_w]
            rfl
          refine take_ (i := 10) (N := some 79) (v := ?_) (a' := ?_) #[true, true, true, true, true, true, true, true, true, true, true, false, true, true, true, true, false, false, false, false, false, false] rfl rfl (take_ofW HT_.out HW_.out (by kernel_rfl)) (fun _ _ _ h => h) (Or.inl ⟨by rfl, ?_⟩) hHeld ?_ ?_
          rotate_left
          · rintro w' ⟨s0, s1, s2, s3, s4, s5, s6, s7, s8⟩
            go_simp
            with_reducible rfl
          rotate_left
          · simp only [Act.put, List.setIfInBounds_toArray, List.set_cons_zero, List.set_cons_succ, i64_w, i32_w]
            rfl
          refine take_ (i := 16) (N := some 85) (v := ?_) (a' := ?_) #[true, true, true, true, true, true, true, true, true, true, true, false, true, true, true, true, true, false, false, false, false, false] rfl rfl (take_ofW HT_.out HW_.out (by kernel_rfl)) (fun _ _ _ h => h) (Or.inl ⟨by rfl, ?_⟩) hHeld ?_ ?_
          rotate_left
          · rintro w' ⟨s0, s1, s2, s3, s4, s5, s6, s7, s8⟩
            go_simp
            with_reducible rfl
          rotate_left
          · simp only [Act.put, List.setIfInBounds_toArray, List.set_cons_zero, List.set_cons_succ, i64_w, i32_w]
            rfl
          refine one_ (i := 11) (N := some 80) #[true, true, true, true, true, true, true, true, true, true, true, true, true, true, true, true, true, false, false, false, false, false] rfl rfl (one_of HT_.out (by kernel_rfl)) (by decide) (fun K hK => ?_)
          refine Kd.R_lit_step (Kd.int .u8) _ 5 ?hg (N := 80) ?hd (xs := ([] : List Int)) (inner := []) (ok := fun _ => True) (okp := fun _ => True) ?hr ?hp (fun _ hk => hk) trivial (Below.refl _ _) (Nat.le_refl _) (by simp) ?_; (case hd => rfl); (case hg => rfl); (case hr => first | (go_simp; done) | (go_simp; rfl)); (case hp => exact (Reps.none _ _))
          intro v160 w8 ho9 hb hg_ hnew_
          clear hg_ hnew_
          (first | rw [← Ny159.out] at ho9 | (simp only [Int.reduceToNat] at ho9; rw [← Ny159.out] at ho9))
          have n0_ := Aside0.mk (Kd.S_elder' (by (with_reducible repeat (first | apply Kd.S_alloc | apply Kd.S_drewN | apply Kd.S_drew)); exact HO_14.out) (Kd.R_base ho9) hb)
          have n1_ := Aside0.mk (Kd.R_lower ho9 (below_size (by repeat (first | (with_reducible first | exact HB.out | apply below_alloc | apply pw_below_drewN | apply below_drew1) | exact HB.out))))
          have n2_ := Aside0.mk (below_step (by repeat (first | (with_reducible first | exact HB.out | apply below_alloc | apply pw_below_drewN | apply below_drew1) | exact HB.out)) hb)
          clear HO_14
          clear HB
          have HO_14 := n0_
          have HO161 := n1_
          have HB := n2_
          clear n0_ n1_ n2_
          clear hb ho9
          refine hK.out _ _ ⟨((HB.out.cell (World.block_lt_of_cell? w _ hw157_0)).trans hw157_0), ((HB.out.cell (World.block_lt_of_cell? w _ hw157_1)).trans hw157_1), ((HB.out.cell (World.block_lt_of_cell? w _ hw157_2)).trans hw157_2), ((HB.out.cell (World.block_lt_of_cell? w _ hw158_0)).trans hw158_0), ((HB.out.cell (World.block_lt_of_cell? w _ hw158_1)).trans hw158_1), ((HB.out.cell (World.block_lt_of_cell? w _ hw158_2)).trans hw158_2), ((HB.out.cell (World.block_lt_of_cell? w _ hw162_0)).trans hw162_0), ((HB.out.cell (World.block_lt_of_cell? w _ hw162_1)).trans hw162_1), ((HB.out.cell (World.block_lt_of_cell? w _ hw162_2)).trans hw162_2)⟩ (fun hHeld => ?_)
          clear hK K
          refine norm_ (a' := ?_) ?_ ?_
          rotate_left
          · show Act.put _ (some 80) _ = _
            simp only [Act.put, List.setIfInBounds_toArray, List.set_cons_zero, List.set_cons_succ, i64_w, i32_w]
            rfl
          refine one_ (i := 17) (N := some 86) #[true, true, true, true, true, true, true, true, true, true, true, true, true, true, true, true, true, true, false, false, false, false] rfl rfl (one_of HT_.out (by kernel_rfl)) (by decide) (fun K hK => ?_)
          refine Kd.R_append_rows_step (Kd.int .u8) (w0 := w) w.heap.size (by rfl) (.tmp 80) (.tmp 85) 22 5 (.int .u8 0) 1 rfl Tryd.underlying22 info5 rfl (by decide) (by omega) v160 y159 ((rd_T34 l0 x15_1).f2) _ _ _ (fun _ => True) (fun _ => False) rfl rfl ?aO ?aR (fun _ _ h => h) (fun _ h => h.elim) ?aF ?aB ?aS ?aL ?_
          (case aR => repeat (first | exact (Kd.C_below HR162_2.out HB.out) | (with_reducible refine Kd.C_alloc ?_ _) | (with_reducible refine Kd.C_drewN ?_ _) | (with_reducible refine Kd.C_drew ?_)))
          (case aB => exact (by repeat (first | (with_reducible first | exact HB.out | apply below_alloc | apply pw_below_drewN | apply below_drew1) | exact HB.out)))
          (case aF => exact (fun _ _ => trivial))
          (case aO => exact (by (with_reducible repeat (first | apply Kd.R_alloc | apply Kd.R_drewN | apply Kd.R_drew)); exact HO161.out))
          (case aS => exact (below_size (by repeat (first | (with_reducible first | exact HB.out | apply below_alloc | apply pw_below_drewN | apply below_drew1) | exact HB.out))))
          (case aL => have := LMc5.out; omega)
          intro v164 w10 ho hb hg hat
          rw [← Ny163.out] at ho
          have n0_ := Aside0.mk (Kd.S_after (ok := (fun _ => True)) (by (with_reducible repeat (first | apply Kd.S_alloc | apply Kd.S_drewN | apply Kd.S_drew)); exact HO_14.out) hg hat)
          have n1_ := Aside0.mk (hb)
          have n2_ := Aside0.mk (ho)
          clear HO_14
          clear HB
          clear HO161
          have HO_14 := n0_
          have HB := n1_
          have HO165 := n2_
          clear n0_ n1_ n2_
          clear ho hb hg hat
          obtain ⟨Ao11, co11, eo11⟩ := Kd.R_slice HO165.out
          (first | subst eo11 | (injection eo11 with f1_ f2_ f3_; have f4_ := f1_.symm; have f5_ := f3_.symm; clear f1_ f2_ f3_; subst f4_; subst f5_))
          refine hK.out _ _ ⟨((HB.out.cell (World.block_lt_of_cell? w _ hw157_0)).trans hw157_0), ((HB.out.cell (World.block_lt_of_cell? w _ hw157_1)).trans hw157_1), ((HB.out.cell (World.block_lt_of_cell? w _ hw157_2)).trans hw157_2), ((HB.out.cell (World.block_lt_of_cell? w _ hw158_0)).trans hw158_0), ((HB.out.cell (World.block_lt_of_cell? w _ hw158_1)).trans hw158_1), ((HB.out.cell (World.block_lt_of_cell? w _ hw158_2)).trans hw158_2), ((HB.out.cell (World.block_lt_of_cell? w _ hw162_0)).trans hw162_0), ((HB.out.cell (World.block_lt_of_cell? w _ hw162_1)).trans hw162_1), ((HB.out.cell (World.block_lt_of_cell? w _ hw162_2)).trans hw162_2)⟩ (fun hHeld => ?_)
          clear hK K
          refine norm_ (a' := ?_) ?_ ?_
          rotate_left
          · show Act.put _ (some 86) _ = _
            simp only [Act.put, List.setIfInBounds_toArray, List.set_cons_zero, List.set_cons_succ, i64_w, i32_w]
            rfl
          refine pure_ (i := 18) (N := some 87) (v := ?_) (a' := ?_) #[true, true, true, true, true, true, true, true, true, true, true, true, true, true, true, true, true, true, true, false, false, false] rfl rfl (any_of HT_.out (by kernel_rfl)) (fun _ _ _ h => h) (Or.inl ⟨by rfl, ?_⟩) ?_ ?_
          rotate_left
          · intro w'
            go_simp
            with_reducible rfl
          rotate_left
          · simp only [Act.put, List.setIfInBounds_toArray, List.set_cons_zero, List.set_cons_succ, i64_w, i32_w]
            rfl
          refine one_ (i := 19) (N := some 88) #[true, true, true, true, true, true, true, true, true, true, true, true, true, true, true, true, true, true, true, true, false, false] rfl rfl (one_of HT_.out (by kernel_rfl)) (by decide) (fun K hK => ?_)
          refine value_ (w1 := ?_) (v := ?_) (by rfl) rfl ?_ ?_
          rotate_left 2
          · go_simp
            constructor
            · rfl
            · rfl
          refine hK.out _ _ ⟨(World.cell?_alloc_lt _ _ _ (World.block_lt_of_cell? _ _ (((HB.out.cell (World.block_lt_of_cell? w _ hw157_0)).trans hw157_0)))).trans (((HB.out.cell (World.block_lt_of_cell? w _ hw157_0)).trans hw157_0)), (World.cell?_alloc_lt _ _ _ (World.block_lt_of_cell? _ _ (((HB.out.cell (World.block_lt_of_cell? w _ hw157_1)).trans hw157_1)))).trans (((HB.out.cell (World.block_lt_of_cell? w _ hw157_1)).trans hw157_1)), (World.cell?_alloc_lt _ _ _ (World.block_lt_of_cell? _ _ (((HB.out.cell (World.block_lt_of_cell? w _ hw157_2)).trans hw157_2)))).trans (((HB.out.cell (World.block_lt_of_cell? w _ hw157_2)).trans hw157_2)), (World.cell?_alloc_lt _ _ _ (World.block_lt_of_cell? _ _ (((HB.out.cell (World.block_lt_of_cell? w _ hw158_0)).trans hw158_0)))).trans (((HB.out.cell (World.block_lt_of_cell? w _ hw158_0)).trans hw158_0)), (World.cell?_alloc_lt _ _ _ (World.block_lt_of_cell? _ _ (((HB.out.cell (World.block_lt_of_cell? w _ hw158_1)).trans hw158_1)))).trans (((HB.out.cell (World.block_lt_of_cell? w _ hw158_1)).trans hw158_1)), (World.cell?_alloc_lt _ _ _ (World.block_lt_of_cell? _ _ (((HB.out.cell (World.block_lt_of_cell? w _ hw158_2)).trans hw158_2)))).trans (((HB.out.cell (World.block_lt_of_cell? w _ hw158_2)).trans hw158_2)), (World.cell?_alloc_lt _ _ _ (World.block_lt_of_cell? _ _ (((HB.out.cell (World.block_lt_of_cell? w _ hw162_0)).trans hw162_0)))).trans (((HB.out.cell (World.block_lt_of_cell? w _ hw162_0)).trans hw162_0)), (World.cell?_alloc_lt _ _ _ (World.block_lt_of_cell? _ _ (((HB.out.cell (World.block_lt_of_cell? w _ hw162_1)).trans hw162_1)))).trans (((HB.out.cell (World.block_lt_of_cell? w _ hw162_1)).trans hw162_1)), (World.cell?_alloc_lt _ _ _ (World.block_lt_of_cell? _ _ (((HB.out.cell (World.block_lt_of_cell? w _ hw162_2)).trans hw162_2)))).trans (((HB.out.cell (World.block_lt_of_cell? w _ hw162_2)).trans hw162_2))⟩ (fun hHeld => ?_)
          clear hK K
          refine norm_ (a' := ?_) ?_ ?_
          rotate_left
          · show Act.put _ (some 88) _ = _
            simp only [Act.put, List.setIfInBounds_toArray, List.set_cons_zero, List.set_cons_succ, i64_w, i32_w]
            rfl
          refine one_ (i := 20) (N := some 89) #[true, true, true, true, true, true, true, true, true, true, true, true, true, true, true, true, true, true, true, true, true, false] rfl rfl (one_of HT_.out (by kernel_rfl)) (by decide) (fun K hK => ?_)
          refine Kd.S_append_step k34 (w0 := w) w.heap.size (by rfl) (.tmp 69) (.tmp 88) 24 34 (.agg #[(.int .i64 0), (.int .i64 0), (.slice none 0 0)]) 40 rfl Tryd.underlying24 info34 rfl (by decide) (by omega) u14 x14_1 (⟨(rd_T34 l0 x15_1).f0, (rd_T34 l0 x15_1).f1, y163⟩ : S34) [.int .i64 ((rd_T34 l0 x15_1).f0), .int .i64 ((rd_T34 l0 x15_1).f1), .slice Ao11 y163.length co11] (fun _ => True) (fun k_ => some k_ = (.slice Ao11 y163.length co11 : Value).ownBlock) rfl rfl ?aP (fun k_ hk_ => ((Kd.R_mono (ok' := fun k_ => ((fun _ => True)) k_ ∧ some k_ ≠ (u14 : Value).ownBlock) (Kd.R_apart' (HO165.out) (Kd.S_typed HO_14.out) (by decide)) (fun k_ hk => ⟨trivial, hk.2⟩))).1 k_ hk_.symm) ?aF ?aO ?aB ?aS ?aL ?_
          (case aP => exact k34_mkM _ _ _ (⟨(rd_T34 l0 x15_1).f0, (rd_T34 l0 x15_1).f1, y163⟩ : S34) (Kd.R_mono (Kd.R_tight rfl (Kd.R_mono (ok' := fun k_ => ((fun _ => True)) k_ ∧ some k_ ≠ (u14 : Value).ownBlock) (Kd.R_apart' (HO165.out) (Kd.S_typed HO_14.out) (by decide)) (fun k_ hk => ⟨trivial, hk.2⟩))) (fun _ h_ => h_)))
          (case aB => exact (by repeat (first | (with_reducible first | exact HB.out | apply below_alloc | apply pw_below_drewN | apply below_drew1) | exact HB.out)))
          (case aF => exact (fun _ _ => trivial))
          (case aO => exact (by (with_reducible repeat (first | apply Kd.S_alloc | apply Kd.S_drewN | apply Kd.S_drew)); exact Kd.S_mono HO_14.out (fun k_ hk => ⟨trivial, fun e_ => hk.2 e_⟩)))
          (case aS => exact (below_size (by repeat (first | (with_reducible first | exact HB.out | apply below_alloc | apply pw_below_drewN | apply below_drew1) | exact HB.out))))
          (case aL => have := LMc6.out; omega)
          intro v167 w12 ho hb hg hat
          rw [← Ny166.out] at ho
          have n0_ := Aside0.mk (hb)
          have n1_ := Aside0.mk (ho)
          clear HB
          clear HO_14
          clear HO165
          have HB := n0_
          have HO168 := n1_
          clear n0_ n1_
          clear ho hb hg hat
          refine hK.out _ _ ⟨((HB.out.cell (World.block_lt_of_cell? w _ hw157_0)).trans hw157_0), ((HB.out.cell (World.block_lt_of_cell? w _ hw157_1)).trans hw157_1), ((HB.out.cell (World.block_lt_of_cell? w _ hw157_2)).trans hw157_2), ((HB.out.cell (World.block_lt_of_cell? w _ hw158_0)).trans hw158_0), ((HB.out.cell (World.block_lt_of_cell? w _ hw158_1)).trans hw158_1), ((HB.out.cell (World.block_lt_of_cell? w _ hw158_2)).trans hw158_2), ((HB.out.cell (World.block_lt_of_cell? w _ hw162_0)).trans hw162_0), ((HB.out.cell (World.block_lt_of_cell? w _ hw162_1)).trans hw162_1), ((HB.out.cell (World.block_lt_of_cell? w _ hw162_2)).trans hw162_2)⟩ (fun hHeld => ?_)
          clear hK K
          refine norm_ (a' := ?_) ?_ ?_
          rotate_left
          · show Act.put _ (some 89) _ = _
            simp only [Act.put, List.setIfInBounds_toArray, List.set_cons_zero, List.set_cons_succ, i64_w, i32_w]
            rfl
          refine pure_ (i := 21) (N := some 14) (v := ?_) (a' := ?_) #[true, true, true, true, true, true, true, true, true, true, true, true, true, true, true, true, true, true, true, true, true, true] rfl rfl (any_of HT_.out (by kernel_rfl)) (fun _ _ _ h => h) (Or.inl ⟨by rfl, ?_⟩) ?_ ?_
          rotate_left
          · intro w'
            go_simp
            with_reducible rfl
          rotate_left
          · simp only [Act.put, List.setIfInBounds_toArray, List.set_cons_zero, List.set_cons_succ, i64_w, i32_w]
            rfl
          refine done_ (done_of HT_.out (by kernel_rfl)) ?_
          try go_wp2_with fail
          have ej : wrap64 (x15_1 + 1) = x15_1 + 1 := by have := HL.out.2; have := HK15.out; unfold wrap64; omega
          have ej2 : IntKind.i64.wrap (x15_1 + 1) = x15_1 + 1 := by have := HL.out.2; have := HK15.out; rw [IntKind.wrap_i64]; omega
          go_roundg k1
          case measure => omega
          case rel => exact ⟨y166, x15_1 + 1, by first | rfl | (simp only [ej, ej2]; done) | (rw [ej]), by have := HK15.out; omega, by have := HK15.out; omega, HY, ⟨by (with_reducible repeat (first | apply Kd.S_alloc | apply Kd.S_drewN | apply Kd.S_drew)); exact HO168.out⟩, ⟨by repeat (first | (with_reducible first | exact HB.out | apply below_alloc | apply pw_below_drewN | apply below_drew1) | exact HB.out)⟩⟩
        | zero =>
          obtain rfl : x15_1 = (l0.length : Int) := by omega
          have hx14 : x14_1 = l0 := by rw [HX14.out, Int.toNat_natCast, List.take_of_length_le (Nat.le_refl _)]
          subst hx14
          obtain ⟨A14, c14, rfl⟩ := Kd.S_slice HO_14.out
          have HM := Aside0.mk (Kd.S_reads' HO_14.out)
          have l2j : ((x14_1.length : Int) < (x14_1.length : Int)) = False := eq_false (by omega)
          clear HX14 h15 hk15 HO_14
          go_upto_region 19 with (go_at_call 14; (with_reducible refine (CJ.out _ _ _ HM.out.2.2 HM.out.2.1).mono ?_); rintro e w8 ⟨A8, c8, e8, rfl, hE8, hC8, hO8, hB8⟩; have En8 := Aside0.mk hE8; have HC8 := Aside0.mk hC8; have HO8 := Aside0.mk hO8; have HB8 := Aside0.mk hB8; clear hE8 hC8 hO8 hB8)
          have j18 := str_at (c := c8) HC8.out
          go_wp2_with fail
          go_loopg [19] ps.length (fun kq v19 w' => ∃ (j : Nat) (xs : List Int), v19 = .int .i64 (j : Int) ∧ j + kq = ps.length ∧ xs.length = ps.length ∧ Aside0 (0 < ps.length → Mk.Out w' wr.heap.size (.slice A8 ps.length c8) xs) ∧ Aside0 (Below wr.heap.size wr w'))
          case atStart => exact ⟨0, ps, rfl, by omega, rfl, HO8, HB8⟩
          case round =>
            obtain ⟨j, xs, rfl, hj, hxl, HX, HB9⟩ := hrel
            cases gk with
            | succ k2 =>
              have l1j : ((j : Int) < (ps.length : Int)) = True := eq_true (by omega)
              have i0 : (0 : Int) ≤ (j : Int) := by omega
              have ej : wrap64 ((j : Int) + 1) = (j : Int) + 1 := by have := HPL.out; unfold wrap64; omega
              obtain ⟨g, he1, hg, hcell, hfr, hput⟩ := out_put (HX.out (by omega)) j (by omega)
              obtain ⟨x, hx⟩ : ∃ x, x = xs.getD j 0 := ⟨_, rfl⟩
              rw [← hx] at hcell
              have HPU := Aside0.mk hput
              have HGG := Aside0.mk hg
              have HXL := Aside0.mk hxl
              subst he1
              clear hput hg hxl hx HX
              go_wp2_with fail
              go_roundg k2
              case measure => omega
              case rel => exact ⟨j + 1, xs.set j _, by first | rfl | (rw [ej]; rfl), by omega, by rw [List.length_set]; exact HXL.out, ⟨fun _ => HPU.out _⟩, ⟨HB9.out.setCell (p := ⟨g, j, none⟩) HGG.out _⟩⟩
            | zero =>
              have l1j : ((j : Int) < (ps.length : Int)) = False := eq_false (by omega)
              clear HX hxl hj HO8 HC8
              go_upto_region 25 with (go_at_call 14; (with_reducible refine (CJ.out _ _ _ (Kd.C_below HM.out.2.2 HB9.out) HM.out.2.1).mono ?_); rintro e w10 ⟨A10, c10, e10, rfl, hE10, hC10, hO10, hB10⟩; have En10 := Aside0.mk hE10; have HC10 := Aside0.mk hC10; have HB10m := Aside0.mk (HB9.out.trans (hB10.mono HB9.out.size)); clear hE10 hC10 hO10 hB10)
              have j20 : ∀ n : Nat, (convert 22 9 (.slice A10 ps.length c10)).run Tryd.prog (w10.drewN n) = .ok (.string (strOfNums ps)) (w10.drewN n) := fun n => str_at (c := c10) (Kd.C_drewN HC10.out n)
              have HM10 := Aside0.mk (Kd.C_below HM.out.2.2 HB10m.out)
              have HBZ := Aside0.mk (HB.out.trans (HB10m.out.mono HB.out.size))
              have hq5 := En5.out.out
              have hq6 := En6.out.out
              have hq8 := En8.out.out
              have hq10 := En10.out.out
              clear En5 En6 En8 En10 CO CJ CK CS
              rcases hq5 with ⟨rfl, rfl⟩ | ⟨rfl, u5, x5, rfl⟩ <;> rcases hq6 with ⟨hx, rfl⟩ | ⟨hx, u6, x6, rfl⟩ <;> first | (cases hx; done) | skip
              all_goals clear hx
              all_goals rcases hq8 with ⟨rfl, rfl⟩ | ⟨rfl, u8, x8, rfl⟩ <;> rcases hq10 with ⟨hx, rfl⟩ | ⟨hx, u10, x10, rfl⟩ <;> first | (cases hx; done) | skip
              all_goals clear hx
              all_goals
                go_quiet ((go_at_call 12; exact Calls.quiet_of (CM.out _ _ _ (Kd.C_drewN HM10.out _) HM.out.2.1 (pw_below_drewN HBZ.out _))))
                go_wp2_with fail
                go_ret
                exact ⟨rfl, pw_below_drewN HBZ.out _⟩
theorem stays (w : World) (hG : GL w) (A0 : Option Addr) (c0 : Nat) (l0 : List S34) (hA : k34.C w A0 l0.length l0) (hc : l0.length ≤ c0) (hm : l0.length ≤ 9223372036854775806) (A1 : Option Addr) (c1 : Nat) (l1 : List Int) (hB : U8.C w A1 l1.length l1) (hd : l1.length ≤ c1) (bb : Bytes l1) :
    Calls Tryd.prog 6 #[.slice A0 l0.length c0, .slice A1 l1.length c1] w fun e w' => e = .returned (.bool true) ∧ Below w.heap.size w w' := by
  obtain ⟨r, hr1, hr2⟩ := small_f l0 hm
  have HG := Aside0.mk hG
  have CS := Aside0.mk (show ∀ W5 : World, Below w.heap.size w W5 → Calls Tryd.prog 13 #[.slice A0 l0.length c0] W5 fun e w' => e = .returned (.bool r) ∧ Drawn0 W5 w' from
    fun W5 h5 => grommetlaw07_small.calls _ A0 c0 l0 r W5 (Kd.C_below hA h5) hc hr1)
  cases r with
  | false =>
    clear hG hA hr1 hr2 hB bb
    go_enter Tryd.func6, Tryd.ntmps6
    go_wp2_with (first
      | (go_at_call 8; (refine (grommetlaw07_up.calls true _ HG.out rfl).mono ?_); rintro e w1 ⟨rfl, hB1⟩; have HB1 := Aside0.mk hB1; clear hB1)
      | (go_at_call 13; (with_reducible refine (CS.out _ HB1.out).mono ?_); rintro e w2 ⟨rfl, hD2⟩; have HB2 := Aside0.mk (HB1.out.trans (hD2.below.mono HB1.out.size)); clear hD2))
    go_ret
    exact ⟨rfl, HB2.out⟩
  | true =>
    obtain ⟨h300, hs⟩ := hr2 rfl
    by_cases lb : l1.length ≤ 3000
    · exact stays_in w hG A0 c0 l0 hA hc A1 c1 l1 hB hd bb lb h300 hs hr1
    · have g1 : decide ((3000 : Int) < (l1.length : Int)) = true := decide_eq_true (by omega)
      clear hG hA hr1 hr2 hB bb lb hs h300
      go_enter Tryd.func6, Tryd.ntmps6
      go_wp2_with (first
      | (go_at_call 8; (refine (grommetlaw07_up.calls true _ HG.out rfl).mono ?_); rintro e w1 ⟨rfl, hB1⟩; have HB1 := Aside0.mk hB1; clear hB1)
      | (go_at_call 13; (with_reducible refine (CS.out _ HB1.out).mono ?_); rintro e w2 ⟨rfl, hD2⟩; have HB2 := Aside0.mk (HB1.out.trans (hD2.below.mono HB1.out.size)); clear hD2))
      go_ret
      exact ⟨rfl, HB2.out⟩
end Go.Proofs.YtibeoejnfpbcfaaDoor.Sx
