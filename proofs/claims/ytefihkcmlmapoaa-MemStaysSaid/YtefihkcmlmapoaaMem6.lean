import Derived.Test.YtefihkcmlmapoaaMem5
namespace Go.Proofs.Ytefihkcmlmapoaa.Mem
open Go.RowKit Go.Proofs.YtefihkcmlmapoaaW.PrintWords Go.Proofs.YtefihkcmlmapoaaW.PrintLast Go.Proofs.YtefihkcmlmapoaaW.PrintMore Go.Proofs.Ytefihkcmlmapoaa.PMemHalves
set_option linter.unusedVariables false
set_option linter.unusedSimpArgs false
theorem load_ex {w : World} {g b : Nat} {most : Int} {xs : List Int} (hx : ∀ x ∈ xs, 0 ≤ x ∧ x < 256) (n : Nat) (hn : xs.length = n) (hb : Row w b 5 (bytes xs)) (hg : Row w g 55 #[.slice (some ⟨b, 0, none⟩) n n, .int .i64 most]) (a : Int) (a0 : 0 ≤ a) (a1 : a < 18446744073709551616) (hlen : n ≤ 4096) :
    Calls Try.prog 12 #[.pointer (some ⟨g, 0, none⟩), .int .u64 a, .int .i64 4] w fun e w' => ∃ (v : Int) (r : Bool), e = .returned (.tuple #[.int .u64 v, .bool r]) ∧ Drawn0 w w' := by
  subst hn
  obtain ⟨at_, rfl⟩ := Int.eq_ofNat_of_zero_le a0
  exact (load_any hx hb hg at_ 4 (by omega) (.inr (.inr (.inl rfl))) hlen).mono fun e w' ⟨he, hw⟩ => ⟨_, _, he, hw⟩
set_option maxHeartbeats 1000000 in
theorem halves_out (w : World) (lo hi : Int) (has : Bool) (at_ : Nat) (v : Int) (ha : at_ < 18446744073709551616) (h : grommetref15_May.f lo hi has = some true) (h0 : 0 ≤ lo) (h1 : lo ≤ 16) (h2 : has = true → lo ≤ hi ∧ hi ≤ 16) (n : Nat) (hn : (lo * 256).toNat = n) (hin : ¬ at_ + 8 ≤ n) :
    Calls Try.prog 3 #[.agg #[.int .i64 lo, .int .i64 hi, .bool has], .int .u64 at_, .int .u64 v] w fun e w' => e = .returned (.bool true) ∧ Below w.heap.size w w' := by
  have hn4 : n ≤ 4096 := by omega
  obtain ⟨xs, hxs⟩ : ∃ xs, xs = List.replicate n (0 : Int) := ⟨_, rfl⟩
  have hl : xs.length = n := by rw [hxs, List.length_replicate]
  have hx : ∀ x ∈ xs, 0 ≤ x ∧ x < 256 := by rw [hxs]; exact rep_range n
  have new3 := fun (W : World) => new_any W lo hi has h0 h1 h2
  simp only [hn, ← hxs, hl] at new3
  have px := Aside0.mk hx
  have py := Aside0.mk hx
  have pl := Aside0.mk hl
  have hnn := Aside0.mk hn4
  have hii := Aside0.mk hin
  have haa := Aside0.mk ha
  have e0 : 0 ≤ IntKind.u64.wrap ((at_ : Int) + 4) := by rw [IntKind.wrap_u64]; omega
  have e1 : IntKind.u64.wrap ((at_ : Int) + 4) < 18446744073709551616 := by rw [IntKind.wrap_u64]; omega
  have r0 := Aside0.mk e0
  have r1 := Aside0.mk e1
  clear hxs hl hx hn hn4 hin e0 e1
  go_enter Try.func3, Try.ntmps3
  go_wp2_with (first | (go_at_call 8; (refine (up_lim _ _).mono ?_); rintro e w1 ⟨rfl, hR1, hB1⟩; have q0 := hR1.cell 0; have q1 := hR1.cell 1; have q2 := hR1.cell 2; simp only [List.getElem?_toArray, List.getElem?_cons_zero, List.getElem?_cons_succ] at q0 q1 q2) | (go_at_call 9; (refine (grommetref15_May.calls lo hi has true _ h).mono ?_); rintro e w2 ⟨rfl, hB2⟩; have hR2 := hR1.below hB2 hR1.lt; have hB12 := below_then hB1 hB1.size hB2; clear q0 q1 q2 hR1 hB1 hB2; have q0 := hR2.cell 0; have q1 := hR2.cell 1; have q2 := hR2.cell 2; simp only [List.getElem?_toArray, List.getElem?_cons_zero, List.getElem?_cons_succ] at q0 q1 q2) | (go_at_call 10; (refine (new3 _).mono ?_); rintro e w3 ⟨g, b, rfl, hbb, hb, hg, hB3⟩; have hB13 := below_then hB12 hB12.size hB3; clear q0 q1 q2 hR2) | (go_at_call 11; (refine (store_no (by exact hg) at_ 8 v haa.out (.inr (.inr (.inr rfl))) hii.out hnn.out).mono ?_); rintro e w' ⟨rfl, ⟨nd0, rfl⟩⟩) | (go_at_call 12; (refine (load_ex px.out n pl.out (by exact hb) (by exact hg) (at_ : Int) (Int.natCast_nonneg _) (by have := haa.out; omega) hnn.out).mono ?_); rintro e w' ⟨z1, z2, rfl, ⟨nd, rfl⟩⟩; clear px) | (go_at_call 12; (refine (load_ex py.out n pl.out (by exact hb) (by exact hg) (IntKind.u64.wrap ((at_ : Int) + 4)) r0.out r1.out hnn.out).mono ?_); rintro e w' ⟨z3, z4, rfl, ⟨nd2, rfl⟩⟩; clear py) | (go_at_call 12; (refine (load_no (by exact hg) at_ 8 haa.out (.inr (.inr (.inr rfl))) hii.out hnn.out).mono ?_); rintro e w' ⟨rfl, ⟨nd3, rfl⟩⟩))
  go_ret
  exact ⟨rfl, by repeat (first | exact hB13 | apply pw_below_drewN)⟩
end Go.Proofs.Ytefihkcmlmapoaa.Mem
