/- The head of lex's statements by its contract; law00.Told; Same; the law LexScans, walked. -/
import Derived.Test.YtaidpcmndmjceaaDoorLx3
import Derived.Test.YtaidpcmndmjceaaDoorLx2b
import Derived.Test.YtaidpcmndmjceaaDoorRLexScansx5c
import Derived.Test.YtaidpcmndmjceaaDoorRLexScansx6
import Derived.BigQuiet
namespace Go.Proofs.YtaidpcmndmjceaaDoor.Man
open Go.RowKit Go.Proofs.YtaidpcmndmjceaaDoorW.PrintWords
/-- errors.errorType's one cell: the handle of the type error. -/
def GL (w : World) : Prop := w.cell? ⟨0, 0, none⟩ = some (.iface 72 (.agg #[.pointer (some ⟨2, 25, none⟩)]))
theorem GL_at {w W : World} (h : GL w) (hb : Below w.heap.size w W) : GL W := pw_cell_below hb h
theorem GL_drewN {w : World} (h : GL w) (n : Nat) : GL (w.drewN n) := h
end Go.Proofs.YtaidpcmndmjceaaDoor.Man
namespace Go.Proofs.YtaidpcmndmjceaaDoor.Lx
open Go.RowKit Go.Proofs.YtaidpcmndmjceaaDoorW.PrintWords Go.Proofs.YtaidpcmndmjceaaDoorW.PrintLast Go.Proofs.YtaidpcmndmjceaaDoorW.PrintMore Go.Proofs.YtaidpcmndmjceaaDoor.RLexScans Go.Proofs.YtaidpcmndmjceaaDoor.Man
set_option linter.unusedVariables false
set_option linter.unusedSimpArgs false
theorem scan_one : scan (bytesOf ⟨#[40, 97, 32, 34, 98, 92, 34, 99, 34, 41, 59, 59, 32, 100]⟩) = .ok [⟨1, 0, ⟨#[]⟩⟩, ⟨4, 1, ⟨#[97]⟩⟩, ⟨3, 3, ⟨#[98, 92, 34, 99]⟩⟩, ⟨2, 9, ⟨#[]⟩⟩] := by kernel_rfl
theorem scan_two : scan (bytesOf ⟨#[97, 32, 91]⟩) = .error (2, 2) := by kernel_rfl
set_option maxRecDepth 100000 in
set_option maxHeartbeats 4000000 in
theorem up_calls (w : World) (hG : GL w) : Calls Tryd.prog 6 #[] w fun e w' => e = .returned (.bool true) ∧ Below w.heap.size w w' := by
  have HG := Aside0.mk hG
  have C1 := Aside0.mk (fun W5 : World => by have z := scan_calls W5 ⟨#[40, 97, 32, 34, 98, 92, 34, 99, 34, 41, 59, 59, 32, 100]⟩ (by decide); rw [scan_one] at z; exact z)
  have C2 := Aside0.mk (fun W5 : World => by have z := scan_calls W5 ⟨#[97, 32, 91]⟩ (by decide); rw [scan_two] at z; exact z)
  clear hG
  go_enter Tryd.func6, Tryd.ntmps6
  go_upto_region 2 with (go_at_call 7; (refine (C1.out _).mono ?_); rintro e w1 ⟨A1, c1, rfl, hR1, hB1⟩; have HR1 := Aside0.mk hR1; have HB1 := Aside0.mk hB1; clear hR1 hB1)
  go_upto_region 3 with (go_at_call 7; (refine (C2.out _).mono ?_); rintro e w2 ⟨p, rfl, p0, p1, pl, hB2⟩; have HP := Aside0.mk (And.intro p0 p1); have HB2 := Aside0.mk (HB1.out.trans (hB2.mono HB1.out.size)); have HC2 := Aside0.mk (Kd.C_below (Kd.R_reads' HR1.out).2.2 hB2); clear p0 p1 pl hB2)
  obtain ⟨ad, rfl, x0, x1, x2⟩ := at_T36 HC2.out (2 : Int) (by omega) (by decide)
  have LI := Aside0.mk (fun n : Nat => Err.law_is p 2 2 (w2.drewN n) (GL_drewN (GL_at HG.out HB2.out) n) HP.out.1 HP.out.2)
  have e2 : (2 : Int).toNat * 3 = 6 := rfl
  rw [e2] at x0 x1 x2
  have r1 : (rd_T36 [⟨1, 0, ⟨#[]⟩⟩, ⟨4, 1, ⟨#[97]⟩⟩, ⟨3, 3, ⟨#[98, 92, 34, 99]⟩⟩, ⟨2, 9, ⟨#[]⟩⟩] 2) = ⟨3, 3, ⟨#[98, 92, 34, 99]⟩⟩ := rfl
  rw [r1] at x0 x1 x2
  replace x0 : w2.cell? ⟨ad.block, ad.off + 6, none⟩ = some (.int .i64 3) := x0
  replace x1 : w2.cell? ⟨ad.block, ad.off + 6 + 1, none⟩ = some (.int .i64 3) := x1
  replace x2 : w2.cell? ⟨ad.block, ad.off + 6 + 2, none⟩ = some (.string ⟨#[98, 92, 34, 99]⟩) := x2
  have LI0 := Aside0.mk (LI.out 0)
  clear e2 r1 HR1 HC2 C1 C2 LI
  go_wp2_with (go_at_call 13; (refine LI0.out.mono ?_); rintro e w3 ⟨rfl, hB3⟩; have HB3 := Aside0.mk hB3; clear hB3)
  go_ret
  exact ⟨rfl, HB2.out.trans (HB3.out.mono HB2.out.size)⟩
theorem told_calls (p at_ : Nat) (b : Int) (w : World) (hG : GL w) (h0 : w.cell? ⟨p, 0, none⟩ = some (.int .i64 (at_ : Int))) (h1 : w.cell? ⟨p, 1, none⟩ = some (.iface 42 (.int .i64 b))) (hb : -9223372036854775808 ≤ b ∧ b < 9223372036854775808) :
    Calls Tryd.prog 9 #[.iface 44 (.pointer (some ⟨p, 0, none⟩)), .int .i64 b, .int .i64 (at_ : Int)] w fun e w' => e = .returned (.bool true) ∧ Below w.heap.size w w' := by
  have LI := Aside0.mk (Err.law_is p (at_ : Int) b w hG h0 h1)
  have n0 : decide ((at_ : Int) < 0) = false := decide_eq_false (by omega)
  have ew : wrap64 b = b := by unfold wrap64; omega
  have ew' : IntKind.i64.wrap b = b := by rw [IntKind.wrap_i64]; omega
  clear hG h0 h1 hb
  go_enter Tryd.func9, Tryd.ntmps9
  go_wp2_with (go_at_call 13; (with_reducible refine LI.out.mono ?_); rintro e w7 ⟨rfl, h7⟩; have H7 := Aside0.mk h7; clear h7)
  go_ret
  exact ⟨rfl, H7.out⟩
theorem scL_err : ∀ (f : Nat) (l : List Int) (p : Nat) (out : List S36) (b : Int) (a : Nat), scL f l p out = .error (b, a) → (b = 2 ∨ b = 7) ∧ a ≤ p + l.length
  | 0, l, p, out, b, a, h => by rw [scL] at h; cases h
  | f + 1, l, p, out, b, a, h => by
    rw [scL] at h
    split at h
    · cases h
    · cases hg : gapN l with
      | none => rw [hg] at h; injection h with h; injection h with h1 h2; exact ⟨.inl h1.symm, by omega⟩
      | some g =>
        have hgl := gapN_len hg
        rw [hg] at h
        match g, hgl with
        | g + 1, hgl =>
          have k := scL_err f _ _ _ b a h
          rw [List.length_drop] at k
          exact ⟨k.1, by omega⟩
        | 0, hgl =>
          simp only at h
          cases ht : tokN l with
          | none => rw [ht] at h; injection h with h; injection h with h1 h2; exact ⟨.inl h1.symm, by omega⟩
          | some q =>
            obtain ⟨k, t, n⟩ := q
            have htl := tokN_len ht
            rw [ht] at h
            simp only at h
            split at h
            · injection h with h; injection h with h1 h2; exact ⟨.inr h1.symm, by omega⟩
            · have z := scL_err f _ _ _ b a h
              rw [List.length_drop] at z
              exact ⟨z.1, by omega⟩
theorem scL_len : ∀ (f : Nat) (l : List Int) (p : Nat) (out cs : List S36), out.length ≤ 4096 → scL f l p out = .ok cs → cs.length ≤ 4096
  | 0, l, p, out, cs, ho, h => by rw [scL] at h; injection h with h; rw [← h]; exact ho
  | f + 1, l, p, out, cs, ho, h => by
    rw [scL] at h
    split at h
    · injection h with h; rw [← h]; exact ho
    · cases hg : gapN l with
      | none => rw [hg] at h; cases h
      | some g =>
        rw [hg] at h
        match g with
        | g + 1 => exact scL_len f _ _ _ cs ho h
        | 0 =>
          simp only at h
          cases ht : tokN l with
          | none => rw [ht] at h; cases h
          | some q =>
            obtain ⟨k, t, n⟩ := q
            rw [ht] at h
            simp only at h
            split at h
            · cases h
            · rename_i hne
              exact scL_len f _ _ _ cs (by simp only [List.length_append, List.length_cons, List.length_nil]; omega) h
/-- Same of two rows of tokens: the same kinds and texts (and, where it is asked, places). -/
def keys (a : Bool) (l : List S36) : List (Int × ByteArray × Int) := l.map fun t => (t.f0, t.f2, if a = true then t.f1 else 0)
theorem keys_len {a : Bool} {l m : List S36} (h : keys a l = keys a m) : l.length = m.length := by
  have := congrArg List.length h
  simpa [keys] using this
theorem keys_at {a : Bool} {l m : List S36} (h : keys a l = keys a m) (j : Nat) : (rd_T36 l (j : Int)).f0 = (rd_T36 m (j : Int)).f0 ∧ (rd_T36 l (j : Int)).f2 = (rd_T36 m (j : Int)).f2 ∧ (a = true → (rd_T36 l (j : Int)).f1 = (rd_T36 m (j : Int)).f1) := by
  unfold rd_T36
  rw [Int.toNat_natCast]
  have e : ∀ l : List S36, (fun t : S36 => (t.f0, t.f2, if a = true then t.f1 else 0)) (l.getD j z36) = (keys a l).getD j (z36.f0, z36.f2, if a = true then z36.f1 else 0) := by
    intro l
    unfold keys
    rw [List.getD_eq_getElem?_getD, List.getD_eq_getElem?_getD, List.getElem?_map]
    cases l[j]? <;> rfl
  have k := (e l).trans ((congrArg (fun z => z.getD j (z36.f0, z36.f2, if a = true then z36.f1 else 0)) h).trans (e m).symm)
  have k1 := congrArg Prod.fst k
  have k2 := congrArg (fun z => z.2.1) k
  have k3 := congrArg (fun z => z.2.2) k
  refine ⟨k1, k2, fun ha => ?_⟩
  simp only [ha, if_true] at k3
  exact k3
theorem same_l0 (l m : List S36) (a : Bool) (h : keys a l = keys a m) (hL : l.length ≤ 100000) : ∀ (f j : Nat), j ≤ l.length → l.length - j < f → grommetlaw09_Same.l0 f l m a (j : Int) = some true
  | 0, j, h1, h2 => absurd h2 (Nat.not_lt_zero _)
  | f + 1, j, h1, h2 => by
    have hl := keys_len h
    rw [grommetlaw09_Same.l0]
    by_cases hj : j < l.length
    · have e : wrap64 ((j : Int) + 1) = ((j + 1 : Nat) : Int) := by unfold wrap64; omega
      obtain ⟨k1, k2, k3⟩ := keys_at h j
      rw [if_pos (by omega), if_pos (by omega), if_pos (by omega), if_pos k1, if_pos (by rw [k2]), e]
      by_cases ha : a = true
      · rw [if_pos ha, if_pos (k3 ha)]
        exact same_l0 l m a h hL f (j + 1) hj (by omega)
      · rw [if_neg ha]
        exact same_l0 l m a h hL f (j + 1) hj (by omega)
    · rw [if_neg (by omega)]
theorem same_f (l m : List S36) (a : Bool) (h : keys a l = keys a m) (hL : l.length ≤ 100000) : grommetlaw09_Same.f (l.length + 1) l m a = some true := by
  unfold grommetlaw09_Same.f
  rw [if_pos (by rw [keys_len h])]
  exact same_l0 l m a h hL _ 0 (Nat.zero_le _) (by omega)
set_option maxRecDepth 100000 in
set_option maxHeartbeats 4000000 in
theorem scans (W : World) (hG : GL W) (s : ByteArray) : Calls Tryd.prog 3 #[.string s] W fun e w' => e = .returned (.bool true) ∧ Below W.heap.size W w' := by
  have HG := Aside0.mk hG
  by_cases hs : s.size ≤ 20000
  · have g1 : decide ((20000 : Int) < (s.size : Int)) = false := decide_eq_false (by omega)
    have CS := Aside0.mk (fun W5 : World => scan_calls W5 s (by omega))
    have CR := Aside0.mk (fun W5 : World => grommetref09_Scan.calls _ s _ _ _ W5 (rscan_f s (by omega)))
    cases hd : scan (bytesOf s) with
    | error q =>
      obtain ⟨b, i⟩ := q
      have hb := (scL_err _ _ _ _ _ _ hd).1
      rw [hd] at CS CR
      simp only [docV] at CR
      have hb1 : (b != 0) = true := by rcases hb with rfl | rfl <;> rfl
      have hb2 : -9223372036854775808 ≤ b ∧ b < 9223372036854775808 := by rcases hb with rfl | rfl <;> omega
      have HB2 := Aside0.mk hb2
      clear hG hd hb hb2 hs
      go_enter Tryd.func3, Tryd.ntmps3
      go_upto_region 5 with (first
      | (go_at_call 6; (refine (up_calls _ HG.out).mono ?_); rintro e w1 ⟨rfl, hB1⟩; have HB1 := Aside0.mk hB1; clear hB1)
      | (go_at_call 7; (refine (CS.out _).mono ?_); rintro e w2 ⟨p, rfl, p0, p1, pl, hB2⟩; have HP2 := Aside0.mk (And.intro p0 p1); have HW2 := Aside0.mk (HB1.out.trans (hB2.mono HB1.out.size)); clear p0 p1 pl hB2))
      go_upto_region 6 with (go_at_call 8; (refine (CR.out _).mono ?_); rintro e w3 ⟨v3, rfl, hR3, hB3⟩; have HP3 := Aside0.mk (And.intro (pw_cell_below hB3 HP2.out.1) (pw_cell_below hB3 HP2.out.2)); have HB3 := Aside0.mk (HW2.out.trans (hB3.mono HW2.out.size)); clear hR3 hB3)
      have TC := Aside0.mk (told_calls p i b w3 (GL_at HG.out HB3.out) HP3.out.1 HP3.out.2 HB2.out)
      go_wp2_with (go_at_call 9; (refine TC.out.mono ?_); rintro e w4 ⟨rfl, hB4⟩; have HB4 := Aside0.mk (HB3.out.trans (hB4.mono HB3.out.size)); clear hB4)
      go_ret
      exact ⟨rfl, HB4.out⟩
    | ok cs =>
      have hl := scL_len _ _ _ [] cs (by simp) hd
      rw [hd] at CS CR
      simp only [docV] at CR
      have CM := Aside0.mk (fun (W5 : World) (A5 : Option Addr) (c5 : Nat) (A6 : Option Addr) (c6 : Nat) (h5 : k36.C W5 A5 cs.length cs) (hc5 : cs.length ≤ c5) (h6 : k36.C W5 A6 cs.length cs) (hc6 : cs.length ≤ c6) => grommetlaw09_Same.calls _ A5 c5 cs A6 c6 cs true true W5 h5 hc5 h6 hc6 (same_f cs cs true rfl (by omega)))
      clear hG hd hs hl
      go_enter Tryd.func3, Tryd.ntmps3
      go_upto_region 5 with (first
      | (go_at_call 6; (refine (up_calls _ HG.out).mono ?_); rintro e w1 ⟨rfl, hB1⟩; have HB1 := Aside0.mk hB1; clear hB1)
      | (go_at_call 7; (refine (CS.out _).mono ?_); rintro e w2 ⟨A2, c2, rfl, hR2, hB2⟩; have HR2 := Aside0.mk (Kd.R_reads' hR2); have HW2 := Aside0.mk (HB1.out.trans (hB2.mono HB1.out.size)); clear hR2 hB2))
      go_upto_region 6 with (go_at_call 8; (refine (CR.out _).mono ?_); rintro e w3 ⟨v3, rfl, hR3, hB3⟩; obtain ⟨A3, c3, rfl⟩ := Kd.R_slice hR3; have HR3 := Aside0.mk (Kd.R_reads' hR3); have HC2 := Aside0.mk (Kd.C_below HR2.out.2.2 hB3); have HB3 := Aside0.mk (HW2.out.trans (hB3.mono HW2.out.size)); clear hR3 hB3)
      go_wp2_with (go_at_call 10; (refine (CM.out _ _ _ _ _ HC2.out HR2.out.2.1 HR3.out.2.2 HR3.out.2.1).mono ?_); rintro e w4 ⟨rfl, hD4⟩; have HB4 := Aside0.mk (HB3.out.trans (hD4.below.mono HB3.out.size)); clear hD4)
      go_ret
      exact ⟨rfl, HB4.out⟩
  · have g1 : decide ((20000 : Int) < (s.size : Int)) = true := decide_eq_true (by omega)
    clear hG hs
    go_enter Tryd.func3, Tryd.ntmps3
    go_wp2_with (go_at_call 6; (refine (up_calls _ HG.out).mono ?_); rintro e w1 ⟨rfl, hB1⟩; have HB1 := Aside0.mk hB1; clear hB1)
    go_ret
    exact ⟨rfl, HB1.out⟩
end Go.Proofs.YtaidpcmndmjceaaDoor.Lx
