/- The document's Quote by contract. -/
import Derived.Test.YtjenbegobpfclaaQt0
set_option linter.unusedVariables false
set_option linter.unusedSimpArgs false
namespace Go.Proofs.Ytjenbegobpfclaa.Tx
open Go.RowKit Go.Shelf Go.Proofs.Ytjenbegobpfclaa.Man Go.Proofs.YtjenbegobpfclaaW.PrintWords Go.Proofs.YtjenbegobpfclaaW.PrintLast Go.Proofs.YtjenbegobpfclaaW.PrintMore Go.Proofs.Ytjenbegobpfclaa.RTextAll
def toI (l : List UInt8) : List Int := l.map fun b => (b.toNat : Int)
theorem toI_app (a b : List UInt8) : toI (a ++ b) = toI a ++ toI b := by simp [toI]
theorem toI_len (l : List UInt8) : (toI l).length = l.length := by simp [toI]
theorem str_toI (l : List UInt8) : strOfNums (toI l) = ⟨l.toArray⟩ := by
  unfold strOfNums toI
  congr 2
  rw [List.map_map]
  have : ((fun b : Int => b.toNat.toUInt8) ∘ fun b : UInt8 => (b.toNat : Int)) = id := by
    funext b
    simp
  first
    | rw [this, List.map_id]
    | (conv => rhs; rw [← List.map_id l]
       apply List.map_congr_left
       intro b _
       simp)
theorem idx_all : ∀ d : Fin 16, (hexs[d.val]'(Nat.lt_of_lt_of_le d.isLt (Nat.le_refl 16))).toNat = (hexc (d.val : Int)).toNat := by decide +kernel
theorem idx_of (d : Int) (h0 : 0 ≤ d) (h1 : d < 16) : ∀ h : d.toNat < hexs.size, ((hexs[d.toNat]'h).toNat : Int) = ((hexc d).toNat : Int) := by
  intro h
  have := idx_all ⟨d.toNat, by omega⟩
  have e : ((d.toNat : Nat) : Int) = d := Int.toNat_of_nonneg h0
  simp only [e] at this
  omega
theorem lit_M {w : World} {g : Nat} {t : TypeId} {fr : Nat × Nat} (xs : List Int) (hl : xs.length ≤ 9223372036854775807) (h : w.heap[g]? = some (.cells (xs.map (Value.int .u8)).toArray t fr)) : (Kd.int .u8).C w (some ⟨g, 0, none⟩) xs.length xs :=
  Kd.C_of_reads (enc := Value.int .u8) (d := (0 : Int)) (h1 := fun _ => rfl) ⟨rfl, hl, fun _ => ⟨_, rfl, fun j hj => by
    rw [add_plain, cell_of_row w g j _ t fr h]
    simp [List.getD, hj]⟩⟩
set_option maxRecDepth 100000 in
set_option maxHeartbeats 4000000 in
theorem rquote_calls (W : World) (A : Option Addr) (c : Nat) (l : List Int) (hC : Kd.C (Kd.int .u8) W A l.length l) (hc : l.length ≤ c) (hl : ∀ x ∈ l, 0 ≤ x ∧ x < 256) (hn : l.length ≤ 1000000) :
    Calls Try.prog 13 #[.slice A l.length c] W fun e w' => e = .returned (.string ⟨(quo l).toArray⟩) ∧ Below W.heap.size W w' := by
  have HC := Aside0.mk hC
  have HL := Aside0.mk hl
  have HN := Aside0.mk hn
  clear hC hl hn hc
  go_enter Try.func13, Try.ntmps13
  go_wp2_with fail
  go_loopg [4, 5, 6] (l.length + 1) (fun kq v4 v5 v6 w' => ∃ (i : Nat) (A4 : Option Addr) (c4 : Nat), v4 = .slice A4 (toI (quo (l.take i))).length c4 ∧ v5 = .int .i64 (i : Int) ∧ i ≤ l.length ∧ i + kq = l.length + 1 ∧ Aside0 ((Kd.int .u8).R 5 w' W.heap.size (fun _ => True) (.slice A4 (toI (quo (l.take i))).length c4) (toI (quo (l.take i)))) ∧ Aside0 (Below W.heap.size W w'))
  case atStart => exact ⟨0, none, 0, rfl, rfl, Nat.zero_le _, by omega, ⟨Kd.R_nil _ _ _ _ _⟩, ⟨Below.refl _ _⟩⟩
  case round =>
    obtain ⟨i, A4, c4, rfl, rfl, hi, hk, HO, HB⟩ := hrel
    cases gk with
    | zero => exact absurd hk (by omega)
    | succ kr =>
      have hw : IntKind.i64.wrap ((i : Int) + 1) = ((i + 1 : Nat) : Int) := by rw [IntKind.wrap_i64]; have := HN.out; omega
      by_cases hlt : i < l.length
      · have hlI : decide ((i : Int) < (l.length : Int)) = true := decide_eq_true (by omega)
        obtain ⟨ad, ead, hx0⟩ := Kd.at_int HC.out (i : Int) (by omega) (by omega)
        cases ead
        replace hx0 := (HB.out.cell (World.block_lt_of_cell? W _ hx0)).trans hx0
        have hxl : rd l (i : Int) = l[i] := by simp [rd, hlt]
        have hT := quo_take l i hlt
        have hX := HL.out l[i] (List.getElem_mem hlt)
        rw [hxl] at hx0
        simp only [Int.toNat_natCast] at hx0
        obtain ⟨x, hx⟩ : ∃ x, l[i] = x := ⟨_, rfl⟩
        rw [hx] at hx0 hT hX
        have hT2 := congrArg toI hT
        rw [toI_app] at hT2
        have HT := Aside0.mk hT2
        have HX := Aside0.mk hX
        have p0 : (0 ≤ (i : Int)) = True := eq_true (by omega)
        have q0 : ((i : Int) < (l.length : Int)) = True := eq_true (by omega)
        have Q := Aside0.mk (show i + 1 ≤ l.length ∧ i + 1 + kr = l.length + 1 by omega)
        have HQ3 := Aside0.mk (show (toI (quo (l.take i))).length ≤ 3000000 by
          rw [toI_len]
          have := quo_len (l.take i)
          have := HN.out
          rw [List.length_take] at *
          omega)
        have hq : IntKind.u8.wrap (Int.tdiv x 16) = x / 16 := by rw [Int.tdiv_eq_ediv_of_nonneg hX.1, IntKind.wrap_u8]; omega
        have hr : Int.tmod x 16 = x % 16 := Int.tmod_eq_emod_of_nonneg hX.1
        have hb1 : (0 ≤ x / 16) = True := eq_true (by omega)
        have hb2 : (x / 16 < 16) = True := eq_true (by omega)
        have hb3 : (0 ≤ x % 16) = True := eq_true (by omega)
        have hb4 : (x % 16 < 16) = True := eq_true (by omega)
        have hb5 : ((x / 16).toNat < 16) = True := eq_true (by omega)
        have hb6 : ((x % 16).toNat < 16) = True := eq_true (by omega)
        have hg1 := idx_of (x / 16) (by omega) (by omega)
        have hg2 := idx_of (x % 16) (by omega) (by omega)
        obtain ⟨ys, hys⟩ : ∃ ys, toI (quo (l.take i)) = ys := ⟨_, rfl⟩
        rw [hys] at HO HT HQ3
        rw [hys]
        clear hX hT hT2 hx hxl hlt hi hk hys
        by_cases h1 : x < 32
        · have d1 : decide (x < 32) = true := decide_eq_true h1
          have HP := Aside0.mk (show toI (quo1 x) = [92, ((hexc (x / 16)).toNat : Int), ((hexc (x % 16)).toNat : Int)] by unfold quo1; rw [if_neg (by simp [plain]; omega)]; rfl)
          clear h1
          go_upto_region 8 with fail
          refine wp_region_heldP (fun _ _ => True) (by kernel_rfl) ?_
          simp only [List.size_toArray, List.length_cons, List.length_nil, Nat.zero_add, Nat.reduceAdd, Array.replicate, List.replicate]
          refine takeA 0 (.slice A4 ys.length c4) rfl (by kernel_rfl) (by kernel_rfl) (by kernel_rfl) (fun _ _ _ h => h) (by rfl) (by intro w; go_simp) ?_
          simp only [Act.put, List.setIfInBounds_toArray, List.set_cons_zero, List.set_cons_succ]
          refine takeA 1 (.string hexs) rfl (by kernel_rfl) (by kernel_rfl) (by kernel_rfl) (fun _ _ _ h => h) (by rfl) (by intro w; go_simp) ?_
          simp only [Act.put, List.setIfInBounds_toArray, List.set_cons_zero, List.set_cons_succ]
          refine takeA 2 (.int .u8 x) rfl (by kernel_rfl) (by kernel_rfl) (by kernel_rfl) (fun _ _ _ h => h) (by rfl) (by intro w; go_simp) ?_
          simp only [Act.put, List.setIfInBounds_toArray, List.set_cons_zero, List.set_cons_succ]
          refine takeA 3 (.int .u8 (x / 16)) rfl (by kernel_rfl) (by kernel_rfl) (by kernel_rfl) (fun _ _ _ h => h) (by rfl) (by intro w; go_simp) ?_
          simp only [Act.put, List.setIfInBounds_toArray, List.set_cons_zero, List.set_cons_succ]
          refine takeA 4 (.int .u8 ((hexc (x / 16)).toNat : Int)) rfl (by kernel_rfl) (by kernel_rfl) (by kernel_rfl) (fun _ _ _ h => h) (by rfl) (by intro w; go_simp) ?_
          simp only [Act.put, List.setIfInBounds_toArray, List.set_cons_zero, List.set_cons_succ]
          refine takeA 5 (.string hexs) rfl (by kernel_rfl) (by kernel_rfl) (by kernel_rfl) (fun _ _ _ h => h) (by rfl) (by intro w; go_simp) ?_
          simp only [Act.put, List.setIfInBounds_toArray, List.set_cons_zero, List.set_cons_succ]
          refine takeA 6 (.int .u8 x) rfl (by kernel_rfl) (by kernel_rfl) (by kernel_rfl) (fun _ _ _ h => h) (by rfl) (by intro w; go_simp) ?_
          simp only [Act.put, List.setIfInBounds_toArray, List.set_cons_zero, List.set_cons_succ]
          refine takeA 7 (.int .u8 (x % 16)) rfl (by kernel_rfl) (by kernel_rfl) (by kernel_rfl) (fun _ _ _ h => h) (by rfl) (by intro w; go_simp) ?_
          simp only [Act.put, List.setIfInBounds_toArray, List.set_cons_zero, List.set_cons_succ]
          refine takeA 8 (.int .u8 ((hexc (x % 16)).toNat : Int)) rfl (by kernel_rfl) (by kernel_rfl) (by kernel_rfl) (fun _ _ _ h => h) (by rfl) (by intro w; go_simp) ?_
          simp only [Act.put, List.setIfInBounds_toArray, List.set_cons_zero, List.set_cons_succ]
          refine wpAnyP_one (i := 9) (by kernel_rfl) (wpOp_run (i := 9) rfl (fun K9 hK9 => ?_))
          go_simp
          refine hK9.out _ _ ⟨trivial, ?_⟩
          clear hK9 K9
          simp only [Act.put, List.setIfInBounds_toArray, List.set_cons_zero, List.set_cons_succ]
          refine wpAnyP_one (i := 10) (by kernel_rfl) (wpOp_run (i := 10) rfl (fun K10 hK10 => ?_))
          have hC9 := lit_M [92, ((hexc (x / 16)).toNat : Int), ((hexc (x % 16)).toNat : Int)] (Nat.le_of_ble_eq_true rfl) (heap_alloc_new wr.drew (.cells #[.int .u8 92, .int .u8 ((hexc (x / 16)).toNat : Int), .int .u8 ((hexc (x % 16)).toNat : Int)] 5 (0, 0)))
          refine Kd.R_append_rows_step (Kd.int .u8) (Rr := (Kd.int .u8).K (wr.drew.alloc (.cells #[.int .u8 92, .int .u8 ((hexc (x / 16)).toNat : Int), .int .u8 ((hexc (x % 16)).toNat : Int)] 5))) (w0 := W) W.heap.size (by rfl) (.tmp 31) (.tmp 40) 34 5 (.int .u8 0) 1 rfl Try.underlying34 inf5 rfl (Nat.zero_lt_succ _) (by decide) (.slice A4 ys.length c4) ys [92, ((hexc (x / 16)).toNat : Int), ((hexc (x % 16)).toNat : Int)] _ _ _ (fun _ => True) (fun _ => False) rfl rfl ?aO hC9 (fun _ _ h => h) (fun _ h => h.elim) (fun _ _ => trivial) ?aB ?aS ?aL ?_
          case aO => exact Kd.R_alloc (Kd.R_drew HO.out) _
          case aB => exact below_alloc (below_drew HB.out) _
          case aS => exact (below_alloc (below_drew HB.out) _).size
          case aL => have := HQ3.out; first | omega | (simp only [List.length_cons, List.length_nil]; omega)
          intro v3 w3 hR3 hB3 hg3 hat3; obtain ⟨A3, c3, e3⟩ := Kd.R_slice hR3; subst e3; have HO3 := Aside0.mk hR3; have HB3 := Aside0.mk hB3; clear hR3 hB3 hg3 hat3 hC9
          refine hK10.out _ _ ⟨trivial, ?_⟩
          clear hK10 K10
          simp only [Act.put, List.setIfInBounds_toArray, List.set_cons_zero, List.set_cons_succ]
          refine wpAnyP_one (i := 11) (by kernel_rfl) (wpOp_run (i := 11) rfl (fun K11 hK11 => ?_))
          go_simp
          refine hK11.out _ _ ⟨trivial, ?_⟩
          clear hK11 K11
          simp only [Act.put, List.setIfInBounds_toArray, List.set_cons_zero, List.set_cons_succ]
          refine wpAnyP_done (by kernel_rfl) ?_ _
          go_wp2_with fail
          go_roundg kr
          case measure => omega
          case rel =>
            have e9 : toI (quo (l.take (i + 1))) = ys ++ [92, ((hexc (x / 16)).toNat : Int), ((hexc (x % 16)).toNat : Int)] := by rw [HT.out, HP.out]
            refine ⟨i + 1, A3, c3, (by rw [e9]; first | rfl | (rw [List.length_append]; rfl) | (simp; done)), (by first | rfl | (rw [← hw]; rfl) | (simp; done) | (simp [*]; done)), Q.out.1, Q.out.2, ⟨?_⟩, HB3⟩
            rw [e9]; exact HO3.out
        · have d1 : decide (x < 32) = false := decide_eq_false h1
          by_cases h2 : x > 126
          · have d2 : decide (x > 126) = true := decide_eq_true h2
            have HP := Aside0.mk (show toI (quo1 x) = [92, ((hexc (x / 16)).toNat : Int), ((hexc (x % 16)).toNat : Int)] by unfold quo1; rw [if_neg (by simp [plain]; omega)]; rfl)
            clear h1 h2
            go_upto_region 8 with fail
            refine wp_region_heldP (fun _ _ => True) (by kernel_rfl) ?_
            simp only [List.size_toArray, List.length_cons, List.length_nil, Nat.zero_add, Nat.reduceAdd, Array.replicate, List.replicate]
            refine takeA 0 (.slice A4 ys.length c4) rfl (by kernel_rfl) (by kernel_rfl) (by kernel_rfl) (fun _ _ _ h => h) (by rfl) (by intro w; go_simp) ?_
            simp only [Act.put, List.setIfInBounds_toArray, List.set_cons_zero, List.set_cons_succ]
            refine takeA 1 (.string hexs) rfl (by kernel_rfl) (by kernel_rfl) (by kernel_rfl) (fun _ _ _ h => h) (by rfl) (by intro w; go_simp) ?_
            simp only [Act.put, List.setIfInBounds_toArray, List.set_cons_zero, List.set_cons_succ]
            refine takeA 2 (.int .u8 x) rfl (by kernel_rfl) (by kernel_rfl) (by kernel_rfl) (fun _ _ _ h => h) (by rfl) (by intro w; go_simp) ?_
            simp only [Act.put, List.setIfInBounds_toArray, List.set_cons_zero, List.set_cons_succ]
            refine takeA 3 (.int .u8 (x / 16)) rfl (by kernel_rfl) (by kernel_rfl) (by kernel_rfl) (fun _ _ _ h => h) (by rfl) (by intro w; go_simp) ?_
            simp only [Act.put, List.setIfInBounds_toArray, List.set_cons_zero, List.set_cons_succ]
            refine takeA 4 (.int .u8 ((hexc (x / 16)).toNat : Int)) rfl (by kernel_rfl) (by kernel_rfl) (by kernel_rfl) (fun _ _ _ h => h) (by rfl) (by intro w; go_simp) ?_
            simp only [Act.put, List.setIfInBounds_toArray, List.set_cons_zero, List.set_cons_succ]
            refine takeA 5 (.string hexs) rfl (by kernel_rfl) (by kernel_rfl) (by kernel_rfl) (fun _ _ _ h => h) (by rfl) (by intro w; go_simp) ?_
            simp only [Act.put, List.setIfInBounds_toArray, List.set_cons_zero, List.set_cons_succ]
            refine takeA 6 (.int .u8 x) rfl (by kernel_rfl) (by kernel_rfl) (by kernel_rfl) (fun _ _ _ h => h) (by rfl) (by intro w; go_simp) ?_
            simp only [Act.put, List.setIfInBounds_toArray, List.set_cons_zero, List.set_cons_succ]
            refine takeA 7 (.int .u8 (x % 16)) rfl (by kernel_rfl) (by kernel_rfl) (by kernel_rfl) (fun _ _ _ h => h) (by rfl) (by intro w; go_simp) ?_
            simp only [Act.put, List.setIfInBounds_toArray, List.set_cons_zero, List.set_cons_succ]
            refine takeA 8 (.int .u8 ((hexc (x % 16)).toNat : Int)) rfl (by kernel_rfl) (by kernel_rfl) (by kernel_rfl) (fun _ _ _ h => h) (by rfl) (by intro w; go_simp) ?_
            simp only [Act.put, List.setIfInBounds_toArray, List.set_cons_zero, List.set_cons_succ]
            refine wpAnyP_one (i := 9) (by kernel_rfl) (wpOp_run (i := 9) rfl (fun K9 hK9 => ?_))
            go_simp
            refine hK9.out _ _ ⟨trivial, ?_⟩
            clear hK9 K9
            simp only [Act.put, List.setIfInBounds_toArray, List.set_cons_zero, List.set_cons_succ]
            refine wpAnyP_one (i := 10) (by kernel_rfl) (wpOp_run (i := 10) rfl (fun K10 hK10 => ?_))
            have hC9 := lit_M [92, ((hexc (x / 16)).toNat : Int), ((hexc (x % 16)).toNat : Int)] (Nat.le_of_ble_eq_true rfl) (heap_alloc_new wr.drew (.cells #[.int .u8 92, .int .u8 ((hexc (x / 16)).toNat : Int), .int .u8 ((hexc (x % 16)).toNat : Int)] 5 (0, 0)))
            refine Kd.R_append_rows_step (Kd.int .u8) (Rr := (Kd.int .u8).K (wr.drew.alloc (.cells #[.int .u8 92, .int .u8 ((hexc (x / 16)).toNat : Int), .int .u8 ((hexc (x % 16)).toNat : Int)] 5))) (w0 := W) W.heap.size (by rfl) (.tmp 31) (.tmp 40) 34 5 (.int .u8 0) 1 rfl Try.underlying34 inf5 rfl (Nat.zero_lt_succ _) (by decide) (.slice A4 ys.length c4) ys [92, ((hexc (x / 16)).toNat : Int), ((hexc (x % 16)).toNat : Int)] _ _ _ (fun _ => True) (fun _ => False) rfl rfl ?aO hC9 (fun _ _ h => h) (fun _ h => h.elim) (fun _ _ => trivial) ?aB ?aS ?aL ?_
            case aO => exact Kd.R_alloc (Kd.R_drew HO.out) _
            case aB => exact below_alloc (below_drew HB.out) _
            case aS => exact (below_alloc (below_drew HB.out) _).size
            case aL => have := HQ3.out; first | omega | (simp only [List.length_cons, List.length_nil]; omega)
            intro v3 w3 hR3 hB3 hg3 hat3; obtain ⟨A3, c3, e3⟩ := Kd.R_slice hR3; subst e3; have HO3 := Aside0.mk hR3; have HB3 := Aside0.mk hB3; clear hR3 hB3 hg3 hat3 hC9
            refine hK10.out _ _ ⟨trivial, ?_⟩
            clear hK10 K10
            simp only [Act.put, List.setIfInBounds_toArray, List.set_cons_zero, List.set_cons_succ]
            refine wpAnyP_one (i := 11) (by kernel_rfl) (wpOp_run (i := 11) rfl (fun K11 hK11 => ?_))
            go_simp
            refine hK11.out _ _ ⟨trivial, ?_⟩
            clear hK11 K11
            simp only [Act.put, List.setIfInBounds_toArray, List.set_cons_zero, List.set_cons_succ]
            refine wpAnyP_done (by kernel_rfl) ?_ _
            go_wp2_with fail
            go_roundg kr
            case measure => omega
            case rel =>
              have e9 : toI (quo (l.take (i + 1))) = ys ++ [92, ((hexc (x / 16)).toNat : Int), ((hexc (x % 16)).toNat : Int)] := by rw [HT.out, HP.out]
              refine ⟨i + 1, A3, c3, (by rw [e9]; first | rfl | (rw [List.length_append]; rfl) | (simp; done)), (by first | rfl | (rw [← hw]; rfl) | (simp; done) | (simp [*]; done)), Q.out.1, Q.out.2, ⟨?_⟩, HB3⟩
              rw [e9]; exact HO3.out
          · have d2 : decide (x > 126) = false := decide_eq_false h2
            by_cases h3 : x = 34
            · have d3 : (x == 34) = true := beq_iff_eq.mpr h3
              have HP := Aside0.mk (show toI (quo1 x) = [92, ((hexc (x / 16)).toNat : Int), ((hexc (x % 16)).toNat : Int)] by unfold quo1; rw [if_neg (by simp [plain]; omega)]; rfl)
              clear h1 h2 h3
              go_upto_region 8 with fail
              refine wp_region_heldP (fun _ _ => True) (by kernel_rfl) ?_
              simp only [List.size_toArray, List.length_cons, List.length_nil, Nat.zero_add, Nat.reduceAdd, Array.replicate, List.replicate]
              refine takeA 0 (.slice A4 ys.length c4) rfl (by kernel_rfl) (by kernel_rfl) (by kernel_rfl) (fun _ _ _ h => h) (by rfl) (by intro w; go_simp) ?_
              simp only [Act.put, List.setIfInBounds_toArray, List.set_cons_zero, List.set_cons_succ]
              refine takeA 1 (.string hexs) rfl (by kernel_rfl) (by kernel_rfl) (by kernel_rfl) (fun _ _ _ h => h) (by rfl) (by intro w; go_simp) ?_
              simp only [Act.put, List.setIfInBounds_toArray, List.set_cons_zero, List.set_cons_succ]
              refine takeA 2 (.int .u8 x) rfl (by kernel_rfl) (by kernel_rfl) (by kernel_rfl) (fun _ _ _ h => h) (by rfl) (by intro w; go_simp) ?_
              simp only [Act.put, List.setIfInBounds_toArray, List.set_cons_zero, List.set_cons_succ]
              refine takeA 3 (.int .u8 (x / 16)) rfl (by kernel_rfl) (by kernel_rfl) (by kernel_rfl) (fun _ _ _ h => h) (by rfl) (by intro w; go_simp) ?_
              simp only [Act.put, List.setIfInBounds_toArray, List.set_cons_zero, List.set_cons_succ]
              refine takeA 4 (.int .u8 ((hexc (x / 16)).toNat : Int)) rfl (by kernel_rfl) (by kernel_rfl) (by kernel_rfl) (fun _ _ _ h => h) (by rfl) (by intro w; go_simp) ?_
              simp only [Act.put, List.setIfInBounds_toArray, List.set_cons_zero, List.set_cons_succ]
              refine takeA 5 (.string hexs) rfl (by kernel_rfl) (by kernel_rfl) (by kernel_rfl) (fun _ _ _ h => h) (by rfl) (by intro w; go_simp) ?_
              simp only [Act.put, List.setIfInBounds_toArray, List.set_cons_zero, List.set_cons_succ]
              refine takeA 6 (.int .u8 x) rfl (by kernel_rfl) (by kernel_rfl) (by kernel_rfl) (fun _ _ _ h => h) (by rfl) (by intro w; go_simp) ?_
              simp only [Act.put, List.setIfInBounds_toArray, List.set_cons_zero, List.set_cons_succ]
              refine takeA 7 (.int .u8 (x % 16)) rfl (by kernel_rfl) (by kernel_rfl) (by kernel_rfl) (fun _ _ _ h => h) (by rfl) (by intro w; go_simp) ?_
              simp only [Act.put, List.setIfInBounds_toArray, List.set_cons_zero, List.set_cons_succ]
              refine takeA 8 (.int .u8 ((hexc (x % 16)).toNat : Int)) rfl (by kernel_rfl) (by kernel_rfl) (by kernel_rfl) (fun _ _ _ h => h) (by rfl) (by intro w; go_simp) ?_
              simp only [Act.put, List.setIfInBounds_toArray, List.set_cons_zero, List.set_cons_succ]
              refine wpAnyP_one (i := 9) (by kernel_rfl) (wpOp_run (i := 9) rfl (fun K9 hK9 => ?_))
              go_simp
              refine hK9.out _ _ ⟨trivial, ?_⟩
              clear hK9 K9
              simp only [Act.put, List.setIfInBounds_toArray, List.set_cons_zero, List.set_cons_succ]
              refine wpAnyP_one (i := 10) (by kernel_rfl) (wpOp_run (i := 10) rfl (fun K10 hK10 => ?_))
              have hC9 := lit_M [92, ((hexc (x / 16)).toNat : Int), ((hexc (x % 16)).toNat : Int)] (Nat.le_of_ble_eq_true rfl) (heap_alloc_new wr.drew (.cells #[.int .u8 92, .int .u8 ((hexc (x / 16)).toNat : Int), .int .u8 ((hexc (x % 16)).toNat : Int)] 5 (0, 0)))
              refine Kd.R_append_rows_step (Kd.int .u8) (Rr := (Kd.int .u8).K (wr.drew.alloc (.cells #[.int .u8 92, .int .u8 ((hexc (x / 16)).toNat : Int), .int .u8 ((hexc (x % 16)).toNat : Int)] 5))) (w0 := W) W.heap.size (by rfl) (.tmp 31) (.tmp 40) 34 5 (.int .u8 0) 1 rfl Try.underlying34 inf5 rfl (Nat.zero_lt_succ _) (by decide) (.slice A4 ys.length c4) ys [92, ((hexc (x / 16)).toNat : Int), ((hexc (x % 16)).toNat : Int)] _ _ _ (fun _ => True) (fun _ => False) rfl rfl ?aO hC9 (fun _ _ h => h) (fun _ h => h.elim) (fun _ _ => trivial) ?aB ?aS ?aL ?_
              case aO => exact Kd.R_alloc (Kd.R_drew HO.out) _
              case aB => exact below_alloc (below_drew HB.out) _
              case aS => exact (below_alloc (below_drew HB.out) _).size
              case aL => have := HQ3.out; first | omega | (simp only [List.length_cons, List.length_nil]; omega)
              intro v3 w3 hR3 hB3 hg3 hat3; obtain ⟨A3, c3, e3⟩ := Kd.R_slice hR3; subst e3; have HO3 := Aside0.mk hR3; have HB3 := Aside0.mk hB3; clear hR3 hB3 hg3 hat3 hC9
              refine hK10.out _ _ ⟨trivial, ?_⟩
              clear hK10 K10
              simp only [Act.put, List.setIfInBounds_toArray, List.set_cons_zero, List.set_cons_succ]
              refine wpAnyP_one (i := 11) (by kernel_rfl) (wpOp_run (i := 11) rfl (fun K11 hK11 => ?_))
              go_simp
              refine hK11.out _ _ ⟨trivial, ?_⟩
              clear hK11 K11
              simp only [Act.put, List.setIfInBounds_toArray, List.set_cons_zero, List.set_cons_succ]
              refine wpAnyP_done (by kernel_rfl) ?_ _
              go_wp2_with fail
              go_roundg kr
              case measure => omega
              case rel =>
                have e9 : toI (quo (l.take (i + 1))) = ys ++ [92, ((hexc (x / 16)).toNat : Int), ((hexc (x % 16)).toNat : Int)] := by rw [HT.out, HP.out]
                refine ⟨i + 1, A3, c3, (by rw [e9]; first | rfl | (rw [List.length_append]; rfl) | (simp; done)), (by first | rfl | (rw [← hw]; rfl) | (simp; done) | (simp [*]; done)), Q.out.1, Q.out.2, ⟨?_⟩, HB3⟩
                rw [e9]; exact HO3.out
            · have d3 : (x == 34) = false := beq_eq_false_iff_ne.mpr h3
              by_cases h4 : x = 92
              · have d4 : (x == 92) = true := beq_iff_eq.mpr h4
                have HP := Aside0.mk (show toI (quo1 x) = [92, ((hexc (x / 16)).toNat : Int), ((hexc (x % 16)).toNat : Int)] by unfold quo1; rw [if_neg (by simp [plain]; omega)]; rfl)
                clear h1 h2 h3 h4
                go_upto_region 8 with fail
                refine wp_region_heldP (fun _ _ => True) (by kernel_rfl) ?_
                simp only [List.size_toArray, List.length_cons, List.length_nil, Nat.zero_add, Nat.reduceAdd, Array.replicate, List.replicate]
                refine takeA 0 (.slice A4 ys.length c4) rfl (by kernel_rfl) (by kernel_rfl) (by kernel_rfl) (fun _ _ _ h => h) (by rfl) (by intro w; go_simp) ?_
                simp only [Act.put, List.setIfInBounds_toArray, List.set_cons_zero, List.set_cons_succ]
                refine takeA 1 (.string hexs) rfl (by kernel_rfl) (by kernel_rfl) (by kernel_rfl) (fun _ _ _ h => h) (by rfl) (by intro w; go_simp) ?_
                simp only [Act.put, List.setIfInBounds_toArray, List.set_cons_zero, List.set_cons_succ]
                refine takeA 2 (.int .u8 x) rfl (by kernel_rfl) (by kernel_rfl) (by kernel_rfl) (fun _ _ _ h => h) (by rfl) (by intro w; go_simp) ?_
                simp only [Act.put, List.setIfInBounds_toArray, List.set_cons_zero, List.set_cons_succ]
                refine takeA 3 (.int .u8 (x / 16)) rfl (by kernel_rfl) (by kernel_rfl) (by kernel_rfl) (fun _ _ _ h => h) (by rfl) (by intro w; go_simp) ?_
                simp only [Act.put, List.setIfInBounds_toArray, List.set_cons_zero, List.set_cons_succ]
                refine takeA 4 (.int .u8 ((hexc (x / 16)).toNat : Int)) rfl (by kernel_rfl) (by kernel_rfl) (by kernel_rfl) (fun _ _ _ h => h) (by rfl) (by intro w; go_simp) ?_
                simp only [Act.put, List.setIfInBounds_toArray, List.set_cons_zero, List.set_cons_succ]
                refine takeA 5 (.string hexs) rfl (by kernel_rfl) (by kernel_rfl) (by kernel_rfl) (fun _ _ _ h => h) (by rfl) (by intro w; go_simp) ?_
                simp only [Act.put, List.setIfInBounds_toArray, List.set_cons_zero, List.set_cons_succ]
                refine takeA 6 (.int .u8 x) rfl (by kernel_rfl) (by kernel_rfl) (by kernel_rfl) (fun _ _ _ h => h) (by rfl) (by intro w; go_simp) ?_
                simp only [Act.put, List.setIfInBounds_toArray, List.set_cons_zero, List.set_cons_succ]
                refine takeA 7 (.int .u8 (x % 16)) rfl (by kernel_rfl) (by kernel_rfl) (by kernel_rfl) (fun _ _ _ h => h) (by rfl) (by intro w; go_simp) ?_
                simp only [Act.put, List.setIfInBounds_toArray, List.set_cons_zero, List.set_cons_succ]
                refine takeA 8 (.int .u8 ((hexc (x % 16)).toNat : Int)) rfl (by kernel_rfl) (by kernel_rfl) (by kernel_rfl) (fun _ _ _ h => h) (by rfl) (by intro w; go_simp) ?_
                simp only [Act.put, List.setIfInBounds_toArray, List.set_cons_zero, List.set_cons_succ]
                refine wpAnyP_one (i := 9) (by kernel_rfl) (wpOp_run (i := 9) rfl (fun K9 hK9 => ?_))
                go_simp
                refine hK9.out _ _ ⟨trivial, ?_⟩
                clear hK9 K9
                simp only [Act.put, List.setIfInBounds_toArray, List.set_cons_zero, List.set_cons_succ]
                refine wpAnyP_one (i := 10) (by kernel_rfl) (wpOp_run (i := 10) rfl (fun K10 hK10 => ?_))
                have hC9 := lit_M [92, ((hexc (x / 16)).toNat : Int), ((hexc (x % 16)).toNat : Int)] (Nat.le_of_ble_eq_true rfl) (heap_alloc_new wr.drew (.cells #[.int .u8 92, .int .u8 ((hexc (x / 16)).toNat : Int), .int .u8 ((hexc (x % 16)).toNat : Int)] 5 (0, 0)))
                refine Kd.R_append_rows_step (Kd.int .u8) (Rr := (Kd.int .u8).K (wr.drew.alloc (.cells #[.int .u8 92, .int .u8 ((hexc (x / 16)).toNat : Int), .int .u8 ((hexc (x % 16)).toNat : Int)] 5))) (w0 := W) W.heap.size (by rfl) (.tmp 31) (.tmp 40) 34 5 (.int .u8 0) 1 rfl Try.underlying34 inf5 rfl (Nat.zero_lt_succ _) (by decide) (.slice A4 ys.length c4) ys [92, ((hexc (x / 16)).toNat : Int), ((hexc (x % 16)).toNat : Int)] _ _ _ (fun _ => True) (fun _ => False) rfl rfl ?aO hC9 (fun _ _ h => h) (fun _ h => h.elim) (fun _ _ => trivial) ?aB ?aS ?aL ?_
                case aO => exact Kd.R_alloc (Kd.R_drew HO.out) _
                case aB => exact below_alloc (below_drew HB.out) _
                case aS => exact (below_alloc (below_drew HB.out) _).size
                case aL => have := HQ3.out; first | omega | (simp only [List.length_cons, List.length_nil]; omega)
                intro v3 w3 hR3 hB3 hg3 hat3; obtain ⟨A3, c3, e3⟩ := Kd.R_slice hR3; subst e3; have HO3 := Aside0.mk hR3; have HB3 := Aside0.mk hB3; clear hR3 hB3 hg3 hat3 hC9
                refine hK10.out _ _ ⟨trivial, ?_⟩
                clear hK10 K10
                simp only [Act.put, List.setIfInBounds_toArray, List.set_cons_zero, List.set_cons_succ]
                refine wpAnyP_one (i := 11) (by kernel_rfl) (wpOp_run (i := 11) rfl (fun K11 hK11 => ?_))
                go_simp
                refine hK11.out _ _ ⟨trivial, ?_⟩
                clear hK11 K11
                simp only [Act.put, List.setIfInBounds_toArray, List.set_cons_zero, List.set_cons_succ]
                refine wpAnyP_done (by kernel_rfl) ?_ _
                go_wp2_with fail
                go_roundg kr
                case measure => omega
                case rel =>
                  have e9 : toI (quo (l.take (i + 1))) = ys ++ [92, ((hexc (x / 16)).toNat : Int), ((hexc (x % 16)).toNat : Int)] := by rw [HT.out, HP.out]
                  refine ⟨i + 1, A3, c3, (by rw [e9]; first | rfl | (rw [List.length_append]; rfl) | (simp; done)), (by first | rfl | (rw [← hw]; rfl) | (simp; done) | (simp [*]; done)), Q.out.1, Q.out.2, ⟨?_⟩, HB3⟩
                  rw [e9]; exact HO3.out
              · have d4 : (x == 92) = false := beq_eq_false_iff_ne.mpr h4
                have HP := Aside0.mk (show toI (quo1 x) = [x] by unfold quo1; rw [if_pos (by simp [plain]; omega)]; have := HX.out; simp [toI]; omega)
                clear h1 h2 h3 h4
                go_wp2_with ((with_reducible refine gate_builtin (b := .append) (xs := #[.tmp 42, .tmp 44]) rfl ?_); at_builtin; refine Kd.R_append (Kd.int .u8) (w0 := W) W.heap.size rfl (.tmp 42) (.tmp 44) 34 5 (.int .u8 0) 1 rfl Try.underlying34 inf5 rfl (Nat.zero_lt_succ _) (by omega) (.slice A4 ys.length c4) ys x [.int .u8 x] (fun _ => True) (fun _ => False) rfl rfl ?aP (fun _ hk => hk.elim) (fun _ _ => trivial) ?aO ?aB ?aS ?aL ?_; (case aP => exact rfl); (case aO => exact HO.out); (case aB => exact HB.out); (case aS => exact HB.out.size); (case aL => have := HQ3.out; omega); intro v3 w3 hR3 hB3 hg3 hat3; obtain ⟨A3, c3, e3⟩ := Kd.R_slice hR3; subst e3; have HO3 := Aside0.mk hR3; have HB3 := Aside0.mk hB3; clear hR3 hB3 hg3 hat3)
                go_roundg kr
                case measure => omega
                case rel =>
                  have e9 : toI (quo (l.take (i + 1))) = ys ++ [x] := by rw [HT.out, HP.out]
                  refine ⟨i + 1, A3, c3, (by rw [e9]; first | rfl | (rw [List.length_append]; rfl) | (simp; done)), (by first | rfl | (rw [← hw]; rfl) | (simp; done) | (simp [*]; done)), Q.out.1, Q.out.2, ⟨?_⟩, HB3⟩
                  rw [e9]; exact HO3.out
      · have hlI : decide ((i : Int) < (l.length : Int)) = false := decide_eq_false (by omega)
        have hlN : (i < l.length) = False := eq_false hlt
        have ei : l.take i = l := List.take_of_length_le (by omega)
        rw [ei] at HO
        rw [ei]
        have j1 : (convert 34 9 (.slice A4 (toI (quo l)).length c4)).run Try.prog wr = .ok (.string ⟨(quo l).toArray⟩) wr := by
          have := Kd.C_string (P := Try.prog) (src := 34) (dst := 9) (c := c4) Try.underlying34 Try.underlying5 Try.underlying9 (Kd.R_reads' HO.out).2.2
          rw [str_toI] at this
          exact this
        clear hlt ei hi hk
        go_wp2_with fail
        go_ret
        exact ⟨rfl, HB.out⟩
end Go.Proofs.Ytjenbegobpfclaa.Tx
