/- slices.Clone of bytes; what sect.Split tells ('spl'). -/
import Derived.Test.YtibeoejnfpbcfaaDoorQSect
import Derived.Test.YtibeoejnfpbcfaaDoorErr2
import Derived.Lib.SliceRun
namespace Go.Proofs.YtibeoejnfpbcfaaDoor.Sx
open Go.RowKit Go.Proofs.YtibeoejnfpbcfaaDoorW.PrintWords Go.Proofs.YtibeoejnfpbcfaaDoorW.PrintLast Go.Proofs.YtibeoejnfpbcfaaDoorW.PrintMore Go.Proofs.YtibeoejnfpbcfaaDoor.RSectSplits Go.Proofs.YtibeoejnfpbcfaaDoor.Leb
set_option linter.unusedVariables false
set_option linter.unusedSimpArgs false
abbrev U8 := Kd.int .u8
theorem info5' : (Tryd.prog.info? 5).map (fun i => (i.zero, i.size, i.bytes)) = some (some (.int .u8 0), 1, 1) := by kernel_rfl
theorem clone_b {w : World} {A : Option Addr} {c : Nat} {xs : List Int} (h : U8.C w A xs.length xs) (hc : xs.length ≤ c) (hn : xs.length ≤ 100000) :
    Calls Tryd.prog 19 #[.slice A xs.length c] w fun e w' => ∃ A' c', e = .returned (.slice A' xs.length c') ∧ U8.R 5 w' w.heap.size (fun _ => True) (.slice A' xs.length c') xs ∧ Below w.heap.size w w' := by
  have hnil := @Lib.run_eql_slice_nil Tryd.prog
  cases A with
  | none =>
    have hl : xs.length = 0 := by
      rcases Nat.eq_zero_or_pos xs.length with h0 | h0
      · exact h0
      · obtain ⟨ad, e, _⟩ := h.2.2 h0; cases e
    obtain rfl : xs = [] := List.eq_nil_of_length_eq_zero hl
    clear h
    go_enter Tryd.func19, Tryd.ntmps19
    go_wp2
    go_ret
    exact ⟨none, 0, rfl, Kd.R_nil _ _ _ _ _, Below.refl _ _⟩
  | some ad =>
    have HA := Aside0.mk h
    have HN := Aside0.mk hn
    clear h hn
    go_enter Tryd.func19, Tryd.ntmps19
    go_wp2_with (first
      | ((with_reducible refine gate_dst (N := 5) rfl ?_); refine Kd.R_lit (Kd.int .u8) _ 5 ?hg (N := 5) ?hd (xs := ([] : List Int)) (inner := []) (ok := fun _ => True) (okp := fun _ => True) ?hr ?hp (fun _ hk => hk) trivial (Below.refl _ _) (Nat.le_refl _) (by simp) ?_; (case hd => rfl); (case hg => rfl); (case hr => first | (go_simp; done) | (go_simp; rfl)); (case hp => exact (Reps.none _ _)); intro v5 w4 ho hb hg_ hnew_; clear hg_ hnew_; have HO4 := Aside0.mk ho; have HB4 := Aside0.mk hb; clear ho hb)
      | ((with_reducible refine gate_builtin (b := .append) (xs := #[.tmp 5, .tmp 6]) rfl ?_); at_builtin; refine Kd.R_append_rows (Kd.int .u8) (w0 := w) w.heap.size rfl (.tmp 5) (.tmp 6) 22 5 (.int .u8 0) 1 rfl Tryd.underlying22 info5' rfl (by decide) (by omega) v5 ([] : List Int) xs _ _ _ (fun _ => True) (fun _ => False) rfl rfl ?aO ?aR (fun _ _ h => h) (fun _ h => h.elim) ?aF ?aB ?aS ?aL ?_; (case aR => exact (Kd.C_below HA.out (by repeat (first | exact HB4.out | apply below_alloc | apply pw_below_drewN | apply below_drew)))); (case aB => exact (by repeat (first | exact HB4.out | apply below_alloc | apply pw_below_drewN | apply below_drew))); (case aF => exact (fun _ _ => trivial)); (case aO => exact (by (with_reducible repeat (first | apply Kd.R_alloc | apply Kd.R_drewN | apply Kd.R_drew)); exact HO4.out)); (case aS => exact (below_size (by repeat (first | exact HB4.out | apply below_alloc | apply pw_below_drewN | apply below_drew)))); (case aL => have := HN.out; simp; omega); intro v7 w5 ho hb hg hat; have ho2 := ho; rw [List.nil_append] at ho2; obtain ⟨A5, c5, e5⟩ := Kd.R_slice ho2; subst e5; have HO5 := Aside0.mk ho2; have HB5 := Aside0.mk hb; clear ho ho2 hb hg hat))
    go_ret
    exact ⟨A5, c5, rfl, HO5.out, HB5.out⟩
/-- The length that stands at a place: it, and where it ends. -/
def rdU (l : List Int) (at_ : Nat) : Option (Nat × Nat) := match scan 5 (l.drop at_) with | none => none | some (D, N) => if D < 2 ^ 32 then some (D, at_ + N) else none
def uV : Option (Nat × Nat) → Int × Int × Option Int
  | none => (0, 0, some 2)
  | some (n, nx) => ((n : Int), (nx : Int), none)
theorem u_f (l : List Int) (hb : Bytes l) (hl : l.length ≤ 100000) (at_ : Nat) (ha : at_ ≤ l.length) : leb_U.f 12 l (at_ : Int) 32 = some (uV (rdU l at_)) := by
  have h := QSect.U_yes l hb (by omega) 32 at_ 12 (by decide) (by decide) (by decide) ha
  have e : ((32 : Nat) : Int) = 32 := rfl
  rw [e] at h
  rw [h]
  unfold rdU uV
  have e5 : (32 + 6) / 7 = 5 := rfl
  rw [e5]
  cases hs : scan 5 (l.drop at_) with
  | none => rfl
  | some p =>
    obtain ⟨D, N⟩ := p
    simp only
    by_cases hD : D < 2 ^ 32
    · rw [if_pos hD, if_pos hD]
    · rw [if_neg hD, if_neg hD]
theorem rdU_facts {l : List Int} (hb : Bytes l) {at_ n nx : Nat} (ha : at_ ≤ l.length) (h : rdU l at_ = some (n, nx)) : at_ < nx ∧ nx ≤ l.length ∧ n < 4294967296 := by
  unfold rdU at h
  cases hs : scan 5 (l.drop at_) with
  | none => rw [hs] at h; cases h
  | some p =>
    obtain ⟨D, N⟩ := p
    rw [hs] at h
    simp only at h
    by_cases hD : D < 2 ^ 32
    · rw [if_pos hD] at h
      injection h with h
      injection h with h1 h2
      obtain ⟨f1, f2, f3, _⟩ := scan_facts 5 (l.drop at_) (hb.drop at_) D N hs
      simp only [List.length_drop] at f3
      omega
    · rw [if_neg hD] at h; cases h
/-- The sections from a place on, behind those that there are; or what is amiss, and where. -/
def spl : Nat → List Int → Nat → Int → List S34 → Except (Int × Nat) (List S34)
  | 0, _, _, _, out => .ok out
  | f + 1, l, at_, last, out =>
    if l.length ≤ at_ then .ok out
    else if 11 < rd l (at_ : Int) ∨ (0 < rd l (at_ : Int) ∧ rd l (at_ : Int) ≤ last) then .error (2, at_)
    else if out.length = 128 then .error (7, at_)
    else match rdU l (at_ + 1) with
      | none => .error (2, at_ + 1)
      | some (n, nx) => if l.length - nx < n then .error (2, at_ + 1) else spl f l (nx + n) (mx last (rd l (at_ : Int))) (out ++ [⟨rd l (at_ : Int), (nx : Int), (l.take (nx + n)).drop nx⟩])
end Go.Proofs.YtibeoejnfpbcfaaDoor.Sx
