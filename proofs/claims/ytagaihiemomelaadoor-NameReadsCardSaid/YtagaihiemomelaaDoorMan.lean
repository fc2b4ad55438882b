/- The head of name's statements, by a contract in the printed texts' form: it comes to errors.As, which reads errors.errorType (listed by the row). -/
import Derived.Test.YtagaihiemomelaaDoorNm1
set_option linter.unusedVariables false
set_option linter.unusedSimpArgs false
namespace Go.Proofs.YtagaihiemomelaaDoor.Man
open Go.RowKit Go.Proofs.YtagaihiemomelaaDoorW.PrintWords Go.Proofs.YtagaihiemomelaaDoor.Nm
/-- errors.errorType's one cell: the handle of the type error. -/
def GL (w : World) : Prop := w.cell? ⟨0, 0, none⟩ = some (.iface 70 (.agg #[.pointer (some ⟨1, 26, none⟩)]))
theorem GL_at {w W : World} (h : GL w) (hb : Below w.heap.size w W) : GL W := pw_cell_below hb h
theorem GL_drewN {w : World} (h : GL w) (n : Nat) : GL (w.drewN n) := h
theorem lit_C {w : World} {g : Nat} {t : TypeId} (xs : List Int) (hl : xs.length ≤ 9223372036854775807) (h : w.heap[g]? = some (.cells (xs.map (Value.int .u8)).toArray t (0, 0))) : U8.C w (some ⟨g, 0, none⟩) xs.length xs :=
  Kd.C_of_reads (enc := Value.int .u8) (d := (0 : Int)) (h1 := fun _ => rfl) ⟨rfl, hl, fun _ => ⟨_, rfl, fun j hj => by
    rw [add_plain, cell_of_row w g j _ t (0, 0) h]
    simp [List.getD, hj]⟩⟩
theorem up_chars : chars [226, 130, 172] = .ok [8364] := by kernel_rfl
theorem up_check : chars [192, 128] = .error 0 := by kernel_rfl
def grommetlaw02_up.f : Option Bool := some true
theorem grommetlaw02_up.calls (r : Bool) (w : World) (hG : GL w) (h : grommetlaw02_up.f = some r) :
    Calls Tryd.prog 8 #[] w fun e w' => e = .returned (.bool r) ∧ Below w.heap.size w w' := by
  obtain rfl := Option.some.inj h
  have C1 := Aside0.mk (show ∀ (W5 : World) (g : Nat), W5.heap[g]? = some (.cells #[.int .u8 226, .int .u8 130, .int .u8 172] 5 (0, 0)) → Calls Tryd.prog 9 #[.slice (some ⟨g, 0, none⟩) 3 3] W5 fun e w' => Res W5 (chars [226, 130, 172]) e w' from
    fun W5 g hg => chars_calls W5 _ 3 [226, 130, 172] (lit_C _ (by decide) hg) (by decide) (by intro x hx; simp at hx; omega) (by decide))
  have C2 := Aside0.mk (show ∀ (W5 : World) (g : Nat), W5.heap[g]? = some (.cells #[.int .u8 192, .int .u8 128] 5 (0, 0)) → Calls Tryd.prog 10 #[.slice (some ⟨g, 0, none⟩) 2 2] W5 fun e w' => ResE W5 (chars [192, 128]) e w' from
    fun W5 g hg => check_calls W5 _ 2 [192, 128] (lit_C _ (by decide) hg) (by decide) (by intro x hx; simp at hx; omega) (by decide))
  rw [up_chars] at C1
  rw [up_check] at C2
  have HG := Aside0.mk hG
  clear hG h
  go_enter Tryd.func8, Tryd.ntmps8
  go_upto_region 2 with (go_at_call 9; (refine (C1.out _ _ (heap_alloc_new _ _)).mono ?_); rintro e w5 ⟨A5, c5, rfl, hR, hB⟩; have HR := Aside0.mk hR; have HB := Aside0.mk hB; clear hR hB)
  go_upto_region 3 with (go_at_call 10; (refine (C2.out _ _ (heap_alloc_new _ _)).mono ?_); rintro e w6 ⟨p, rfl, h0, h1, h2, hB⟩; have H6 := Aside0.mk (And.intro h0 (And.intro h1 (And.intro h2 hB))); clear h0 h1 h2 hB)
  have b1 : Below w.heap.size w w5 := (below_alloc (Below.refl w.heap.size w) _).trans (HB.out.mono (by simp))
  have b2 : Below w5.heap.size w5 w6 := (below_alloc (Below.refl w5.heap.size w5) _).trans (H6.out.2.2.2.mono (by simp))
  have b3 : Below w.heap.size w w6 := b1.trans (b2.mono b1.size)
  have hR6 := Kd.R_below HR.out b2
  obtain ⟨g, rfl⟩ : ∃ g, A5 = some ⟨g, 0, none⟩ := by
    obtain ⟨g, cap, he, _⟩ := Kd.R_form hR6 (by decide)
    simp only [Value.slice.injEq] at he
    exact ⟨g, he.1⟩
  obtain ⟨c60, z60⟩ := Kd.R_celln (d := (0 : Int)) hR6 0 (by decide) (by decide)
  have e60 : rdOf (0 : Int) ([8364] : List Int) 0 = 8364 := by kernel_rfl
  rw [e60] at c60
  simp only [Int.toNat_zero] at c60
  have LI := Aside0.mk (show ∀ W5 : World, Below w6.heap.size w6 W5 → Calls Tryd.prog 12 #[.iface 44 (.pointer (some ⟨p, 0, none⟩)), .int .i64 0, .int .i64 2] W5 fun e w' => e = .returned (.bool true) ∧ Below W5.heap.size W5 w' from
    fun W5 h5 => Err.law_is p 0 2 W5 (GL_at (GL_at HG.out b3) h5) (pw_cell_below h5 H6.out.1) (pw_cell_below h5 H6.out.2.1))
  have B3 := Aside0.mk b3
  clear b1 b2 b3 hR6 HR HB C1 C2 H6 z60 e60
  go_wp2_with (go_at_call 12; (with_reducible refine (LI.out _ (by repeat (first | exact Below.refl _ _ | apply pw_below_drewN | apply below_drew))).mono ?_); rintro e w7 ⟨rfl, h7⟩; have H7 := Aside0.mk h7; clear h7)
  go_ret
  exact ⟨rfl, B3.out.trans (H7.out.mono B3.out.size)⟩
end Go.Proofs.YtagaihiemomelaaDoor.Man
