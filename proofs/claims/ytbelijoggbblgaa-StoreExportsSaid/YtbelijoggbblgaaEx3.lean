/- slices.Clone of structs without slices. -/
import Derived.Test.YtbelijoggbblgaaRStoreExportsx1
import Derived.Test.YtbelijoggbblgaaEx0
namespace Go.Proofs.Ytbelijoggbblgaa.Ex
open Go.RowKit Go.Proofs.YtbelijoggbblgaaW.PrintWords Go.Proofs.YtbelijoggbblgaaW.PrintLast Go.Proofs.Ytbelijoggbblgaa.RStoreExports
set_option linter.unusedVariables false
set_option linter.unusedSimpArgs false
theorem clone38 {w : World} {A : Option Addr} {c : Nat} {xs : List S38} (h : Kd.C k38 w A xs.length xs) (hc : xs.length ≤ c) (hn : xs.length * 24 ≤ 140737488351232) :
    Calls Try.prog 53 #[.slice A xs.length c] w fun e w' => ∃ v0_ : Value, e = .returned v0_ ∧ Kd.R k38 38 w' w.heap.size (fun _ => True) v0_ xs ∧ Below w.heap.size w w' := by
  have hnil := @Lib.run_eql_slice_nil Try.prog
  cases A with
  | none =>
    have hl : xs.length = 0 := by
      rcases Nat.eq_zero_or_pos xs.length with h0 | h0
      · exact h0
      · obtain ⟨ad, e, _⟩ := h.2.2 h0; cases e
    obtain rfl : xs = [] := List.eq_nil_of_length_eq_zero hl
    clear h
    go_enter Try.func53, Try.ntmps53
    go_wp2
    go_ret
    exact ⟨_, rfl, Kd.R_nil _ _ _ _ _, Below.refl _ _⟩
  | some ad =>
    have H := Aside0.mk (Kd.C_below h (below_alloc (Below.refl w.heap.size w) (.cells #[] 38)))
    have HR : Kd.R k38 38 (w.alloc (.cells #[] 38)) w.heap.size (fun _ => True) (.slice (some ⟨w.heap.size, 0, none⟩) 0 0) [] := ⟨fun _ _ => trivial, [], World.ownsRow_made w #[] 0 (Nat.le_refl _) (by decide) rfl, Reps.none _ _⟩
    have HO := Aside0.mk HR
    have HN := Aside0.mk hn
    clear h hn HR
    go_enter Try.func53, Try.ntmps53
    go_wp2_with (at_builtin; refine Kd.R_append_rows k38 (Rr := k38.K (w.alloc (.cells #[] 38))) (w0 := w) w.heap.size rfl (.tmp 5) (.tmp 6) 54 38 (.agg #[.int .i64 0, .int .i64 0, .bool false]) 24 rfl Try.underlying54 (by kernel_rfl) rfl (by decide) (by decide) (.slice (some ⟨w.heap.size, 0, none⟩) 0 0) [] xs _ _ _ (fun _ => True) (fun _ => False) rfl rfl ?aO ?aR ?aK (fun _ h => h.elim) (fun _ _ => trivial) ?aB ?aS ?aL ?_; (case aO => exact HO.out); (case aR => exact H.out); (case aK => exact (fun x cs hh => by rw [k38_open hh]; exact k38_mkM _ _ _ _)); (case aB => exact below_alloc (Below.refl _ _) _); (case aS => simp); (case aL => have := HN.out; simp; omega); intro v3 w3 hR3 hB3 hg3 hat3; have HR3 := Aside0.mk hR3; have HB3 := Aside0.mk hB3; clear hR3 hB3 hg3 hat3)
    go_ret
    exact ⟨_, rfl, HR3.out, HB3.out⟩
theorem clone74 {w : World} {A : Option Addr} {c : Nat} {xs : List S74} (h : Kd.C k74 w A xs.length xs) (hc : xs.length ≤ c) (hn : xs.length * 32 ≤ 140737488351232) :
    Calls Try.prog 54 #[.slice A xs.length c] w fun e w' => ∃ v0_ : Value, e = .returned v0_ ∧ Kd.R k74 74 w' w.heap.size (fun _ => True) v0_ xs ∧ Below w.heap.size w w' := by
  have hnil := @Lib.run_eql_slice_nil Try.prog
  cases A with
  | none =>
    have hl : xs.length = 0 := by
      rcases Nat.eq_zero_or_pos xs.length with h0 | h0
      · exact h0
      · obtain ⟨ad, e, _⟩ := h.2.2 h0; cases e
    obtain rfl : xs = [] := List.eq_nil_of_length_eq_zero hl
    clear h
    go_enter Try.func54, Try.ntmps54
    go_wp2
    go_ret
    exact ⟨_, rfl, Kd.R_nil _ _ _ _ _, Below.refl _ _⟩
  | some ad =>
    have H := Aside0.mk (Kd.C_below h (below_alloc (Below.refl w.heap.size w) (.cells #[] 74)))
    have HR : Kd.R k74 74 (w.alloc (.cells #[] 74)) w.heap.size (fun _ => True) (.slice (some ⟨w.heap.size, 0, none⟩) 0 0) [] := ⟨fun _ _ => trivial, [], World.ownsRow_made w #[] 0 (Nat.le_refl _) (by decide) rfl, Reps.none _ _⟩
    have HO := Aside0.mk HR
    have HN := Aside0.mk hn
    clear h hn HR
    go_enter Try.func54, Try.ntmps54
    go_wp2_with (at_builtin; refine Kd.R_append_rows k74 (Rr := k74.K (w.alloc (.cells #[] 74))) (w0 := w) w.heap.size rfl (.tmp 5) (.tmp 6) 56 74 (.agg #[.string ⟨#[]⟩, .int .i64 0, .int .i64 0]) 32 rfl Try.underlying56 (by kernel_rfl) rfl (by decide) (by decide) (.slice (some ⟨w.heap.size, 0, none⟩) 0 0) [] xs _ _ _ (fun _ => True) (fun _ => False) rfl rfl ?aO ?aR ?aK (fun _ h => h.elim) (fun _ _ => trivial) ?aB ?aS ?aL ?_; (case aO => exact HO.out); (case aR => exact H.out); (case aK => exact (fun x cs hh => by rw [k74_open hh]; exact k74_mkM _ _ _ _)); (case aB => exact below_alloc (Below.refl _ _) _); (case aS => simp); (case aL => have := HN.out; simp; omega); intro v3 w3 hR3 hB3 hg3 hat3; have HR3 := Aside0.mk hR3; have HB3 := Aside0.mk hB3; clear hR3 hB3 hg3 hat3)
    go_ret
    exact ⟨_, rfl, HR3.out, HB3.out⟩
theorem clone118 {w : World} {A : Option Addr} {c : Nat} {xs : List S118} (h : Kd.C k118 w A xs.length xs) (hc : xs.length ≤ c) (hn : xs.length * 80 ≤ 140737488351232) :
    Calls Try.prog 52 #[.slice A xs.length c] w fun e w' => ∃ v0_ : Value, e = .returned v0_ ∧ Kd.R k118 118 w' w.heap.size (fun _ => True) v0_ xs ∧ Below w.heap.size w w' := by
  have hnil := @Lib.run_eql_slice_nil Try.prog
  cases A with
  | none =>
    have hl : xs.length = 0 := by
      rcases Nat.eq_zero_or_pos xs.length with h0 | h0
      · exact h0
      · obtain ⟨ad, e, _⟩ := h.2.2 h0; cases e
    obtain rfl : xs = [] := List.eq_nil_of_length_eq_zero hl
    clear h
    go_enter Try.func52, Try.ntmps52
    go_wp2
    go_ret
    exact ⟨_, rfl, Kd.R_nil _ _ _ _ _, Below.refl _ _⟩
  | some ad =>
    have H := Aside0.mk (Kd.C_below h (below_alloc (Below.refl w.heap.size w) (.cells #[] 118)))
    have HR : Kd.R k118 118 (w.alloc (.cells #[] 118)) w.heap.size (fun _ => True) (.slice (some ⟨w.heap.size, 0, none⟩) 0 0) [] := ⟨fun _ _ => trivial, [], World.ownsRow_made w #[] 0 (Nat.le_refl _) (by decide) rfl, Reps.none _ _⟩
    have HO := Aside0.mk HR
    have HN := Aside0.mk hn
    clear h hn HR
    go_enter Try.func52, Try.ntmps52
    go_wp2_with (at_builtin; refine Kd.R_append_rows k118 (Rr := k118.K (w.alloc (.cells #[] 118))) (w0 := w) w.heap.size rfl (.tmp 5) (.tmp 6) 52 118 (.agg #[.string ⟨#[]⟩, .string ⟨#[]⟩, .int .i64 0, .int .i64 0, .bool false, .int .i64 0, .int .i64 0, .bool false]) 80 rfl Try.underlying52 (by kernel_rfl) rfl (by decide) (by decide) (.slice (some ⟨w.heap.size, 0, none⟩) 0 0) [] xs _ _ _ (fun _ => True) (fun _ => False) rfl rfl ?aO ?aR ?aK (fun _ h => h.elim) (fun _ _ => trivial) ?aB ?aS ?aL ?_; (case aO => exact HO.out); (case aR => exact H.out); (case aK => exact (fun x cs hh => by rw [k118_open hh]; exact k118_mkM _ _ _ _)); (case aB => exact below_alloc (Below.refl _ _) _); (case aS => simp); (case aL => have := HN.out; simp; omega); intro v3 w3 hR3 hB3 hg3 hat3; have HR3 := Aside0.mk hR3; have HB3 := Aside0.mk hB3; clear hR3 hB3 hg3 hat3)
    go_ret
    exact ⟨_, rfl, HR3.out, HB3.out⟩
end Go.Proofs.Ytbelijoggbblgaa.Ex
