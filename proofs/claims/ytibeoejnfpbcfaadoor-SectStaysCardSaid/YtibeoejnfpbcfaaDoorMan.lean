/- The head of sect's statements, by a contract in the printed texts' form: it comes to errors.As, which reads errors.errorType (listed by the row). -/
import Derived.Test.YtibeoejnfpbcfaaDoorSx2
import Derived.Lib.SlBytesConst
set_option linter.unusedVariables false
set_option linter.unusedSimpArgs false
namespace Go.Proofs.YtibeoejnfpbcfaaDoor.Man
open Go.RowKit Go.Proofs.YtibeoejnfpbcfaaDoorW.PrintWords Go.Proofs.YtibeoejnfpbcfaaDoor.Sx
/-- errors.errorType's one cell: the handle of the type error. -/
def GL (w : World) : Prop := w.cell? ⟨0, 0, none⟩ = some (.iface 84 (.agg #[.pointer (some ⟨1, 26, none⟩)]))
theorem GL_at {w W : World} (h : GL w) (hb : Below w.heap.size w W) : GL W := pw_cell_below hb h
theorem GL_drewN {w : World} (h : GL w) (n : Nat) : GL (w.drewN n) := h
def magic : List Int := [0, 97, 115, 109, 1, 0, 0, 0]
theorem lit_M {w : World} {g : Nat} {t : TypeId} {fr : Nat × Nat} (xs : List Int) (hl : xs.length ≤ 9223372036854775807) (h : w.heap[g]? = some (.cells (xs.map (Value.int .u8)).toArray t fr)) : U8.C w (some ⟨g, 0, none⟩) xs.length xs :=
  Kd.C_of_reads (enc := Value.int .u8) (d := (0 : Int)) (h1 := fun _ => rfl) ⟨rfl, hl, fun _ => ⟨_, rfl, fun j hj => by
    rw [add_plain, cell_of_row w g j _ t fr h]
    simp [List.getD, hj]⟩⟩
theorem join_nil (W : World) : Calls Tryd.prog 14 #[.slice none 0 0] W fun e w' => ∃ A c, e = .returned (.tuple #[.slice A 8 c, .nilIface]) ∧ U8.C w' A 8 magic ∧ Below W.heap.size W w' := by
  have hcv := Lib.run_convert_bytes_const (P := Tryd.prog) W 22 5 #[.int .u8 0, .int .u8 97, .int .u8 115, .int .u8 109, .int .u8 1, .int .u8 0, .int .u8 0, .int .u8 0] 8 8 Tryd.underlying22 Tryd.underlying5
  go_enter Tryd.func14, Tryd.ntmps14
  go_wp2_with fail
  obtain ⟨wm, hwm⟩ : ∃ x, x = W.alloc (.cells #[.int .u8 0, .int .u8 97, .int .u8 115, .int .u8 109, .int .u8 1, .int .u8 0, .int .u8 0, .int .u8 0] 5 (8, 9)) := ⟨_, rfl⟩
  rw [← hwm]
  go_loopg [4, 16] 0 (fun kq v4 v16 w' => v4 = .slice (some ⟨W.heap.size, 0, none⟩) 8 8 ∧ v16 = .int .i64 0 ∧ w' = wm)
  case atStart => exact ⟨rfl, rfl, rfl⟩
  case round =>
    obtain ⟨rfl, rfl, rfl⟩ := hrel
    go_wp2_with fail
    go_ret2
    subst hwm
    exact ⟨_, 8, rfl, lit_M magic (by decide) (heap_alloc_new W _), below_alloc (Below.refl _ _) _⟩
theorem split_nil : split [] = .error (2, 0) := by kernel_rfl
def grommetlaw07_up.f : Option Bool := some true
theorem grommetlaw07_up.calls (r : Bool) (w : World) (hG : GL w) (h : grommetlaw07_up.f = some r) :
    Calls Tryd.prog 8 #[] w fun e w' => e = .returned (.bool r) ∧ Below w.heap.size w w' := by
  obtain rfl := Option.some.inj h
  have CS := Aside0.mk (show ∀ W5 : World, Calls Tryd.prog 9 #[.slice none 0 0] W5 fun e w' => Res W5 (.error (2, 0)) e w' from
    fun W5 => by
      have k := split_calls W5 none 0 [] (Kd.C_of_reads (enc := Value.int .u8) (d := (0 : Int)) (h1 := fun _ => rfl) ⟨rfl, Nat.zero_le _, fun hp => absurd hp (Nat.lt_irrefl 0)⟩) (Nat.le_refl _) (fun x hx => by cases hx) (by decide)
      rw [split_nil] at k
      exact k)
  have HG := Aside0.mk hG
  clear hG h
  go_enter Tryd.func8, Tryd.ntmps8
  go_upto_region 2 with (go_at_call 14; (refine (join_nil _).mono ?_); rintro e w5 ⟨A5, c5, rfl, hC, hB⟩; have HC := Aside0.mk hC; have HB := Aside0.mk hB; clear hC hB)
  go_upto_region 3 with (go_at_call 9; (refine (CS.out _).mono ?_); rintro e w6 ⟨p, rfl, h0, h1, h2, hB⟩; have H6 := Aside0.mk (And.intro h0 (And.intro h1 (And.intro h2 hB))); clear h0 h1 h2 hB)
  have b3 : Below w.heap.size w w6 := HB.out.trans (H6.out.2.2.2.mono HB.out.size)
  have j1 := str_at (c := c5) (Kd.C_below HC.out H6.out.2.2.2)
  have em : strOfNums magic = ⟨#[0, 97, 115, 109, 1, 0, 0, 0]⟩ := by kernel_rfl
  have e8 : magic.length = 8 := rfl
  rw [em] at j1
  have LI := Aside0.mk (show ∀ W5 : World, Below w6.heap.size w6 W5 → Calls Tryd.prog 16 #[.iface 46 (.pointer (some ⟨p, 0, none⟩)), .int .i64 0, .int .i64 2] W5 fun e w' => e = .returned (.bool true) ∧ Below W5.heap.size W5 w' from
    fun W5 h5 => Err.law_is p 0 2 W5 (GL_at (GL_at HG.out b3) h5) (pw_cell_below h5 H6.out.1) (pw_cell_below h5 H6.out.2.1))
  have B3 := Aside0.mk b3
  have j2 : (convert 22 9 (.slice A5 8 c5)).run Tryd.prog w6 = .ok (.string ⟨#[0, 97, 115, 109, 1, 0, 0, 0]⟩) w6 := j1
  clear b3 HB H6 CS em e8 j1
  go_wp2_with (go_at_call 16; (with_reducible refine (LI.out _ (by repeat (first | exact Below.refl _ _ | apply pw_below_drewN | apply below_drew))).mono ?_); rintro e w7 ⟨rfl, h7⟩; have H7 := Aside0.mk h7; clear h7)
  go_ret
  exact ⟨rfl, B3.out.trans (H7.out.mono B3.out.size)⟩
end Go.Proofs.YtibeoejnfpbcfaaDoor.Man
