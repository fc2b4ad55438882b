/- text.Quote by contract. -/
import Derived.Test.YtjenbegobpfclaaBd0
import Derived.Test.YtjenbegobpfclaaWp0
import Derived.Test.YtjenbegobpfclaaShelf
set_option linter.unusedVariables false
set_option linter.unusedSimpArgs false
namespace Go.Proofs.Ytjenbegobpfclaa.Tx
open Go.RowKit Go.Shelf Go.Proofs.Ytjenbegobpfclaa.Man Go.Proofs.YtjenbegobpfclaaW.PrintWords Go.Proofs.YtjenbegobpfclaaW.PrintLast Go.Proofs.YtjenbegobpfclaaW.PrintMore Go.Proofs.Ytjenbegobpfclaa.RTextAll
abbrev hexs : ByteArray := ⟨#[48, 49, 50, 51, 52, 53, 54, 55, 56, 57, 97, 98, 99, 100, 101, 102]⟩
/-- A digit's letter. -/
def hexc (d : Int) : UInt8 := (if d < 10 then 48 + d else 87 + d).toNat.toUInt8
/-- Does a byte stand for itself? -/
def plain (x : Int) : Bool := decide (32 ≤ x) && decide (x < 127) && x != 34 && x != 92
def quo1 (x : Int) : List UInt8 := if plain x = true then [x.toNat.toUInt8] else [92, hexc (x / 16), hexc (x % 16)]
def quo (l : List Int) : List UInt8 := l.flatMap quo1
theorem quo_len (l : List Int) : (quo l).length ≤ 3 * l.length := by
  induction l with
  | nil => exact Nat.le_refl _
  | cons x l ih =>
    have : (quo1 x).length ≤ 3 := by unfold quo1; split <;> simp
    simp [quo] at ih ⊢
    omega
theorem hex_all : ∀ x : Fin 256, (((⟨#[92]⟩ : ByteArray) ++ hexs.extract (x.val / 16) (x.val / 16 + 1)) ++ hexs.extract (x.val % 16) (x.val % 16 + 1)).data.toList = [92, hexc ((x.val : Int) / 16), hexc ((x.val : Int) % 16)] := by decide +kernel
theorem shr_all : ∀ x : Fin 256, shr .u8 (x.val : Int) 4 = (x.val : Int) / 16 := by decide +kernel
theorem hex_of (x : Int) (h0 : 0 ≤ x) (h1 : x < 256) : (((⟨#[92]⟩ : ByteArray) ++ hexs.extract (x / 16).toNat (x / 16 + 1).toNat) ++ hexs.extract (x % 16).toNat (x % 16 + 1).toNat) = ⟨[92, hexc (x / 16), hexc (x % 16)].toArray⟩ := by
  have h := hex_all ⟨x.toNat, by omega⟩
  have e : ((x.toNat : Nat) : Int) = x := Int.toNat_of_nonneg h0
  have e1 : (x / 16).toNat = x.toNat / 16 := by omega
  have e2 : (x / 16 + 1).toNat = x.toNat / 16 + 1 := by omega
  have e3 : (x % 16).toNat = x.toNat % 16 := by omega
  have e4 : (x % 16 + 1).toNat = x.toNat % 16 + 1 := by omega
  simp only [e] at h
  rw [e1, e2, e3, e4]
  apply ByteArray.ext
  apply Array.ext'
  exact h
theorem shr_of (x : Int) (h0 : 0 ≤ x) (h1 : x < 256) : shr .u8 x 4 = x / 16 := by
  have h := shr_all ⟨x.toNat, by omega⟩
  have e : ((x.toNat : Nat) : Int) = x := Int.toNat_of_nonneg h0
  simp only [e] at h
  exact h
theorem quo_take (l : List Int) (n : Nat) (h : n < l.length) : quo (l.take (n + 1)) = quo (l.take n) ++ quo1 (l[n]'h) := by
  unfold quo
  have e : l.take (n + 1) = l.take n ++ [l[n]] := by simp
  rw [e, List.flatMap_append]
  simp
theorem builder_drew {T e : TypeId} {B b : Nat} {bs : List Value} {w : World} (h : Lib.IsBuilder T e B b bs w) : Lib.IsBuilder T e B b bs w.drew := h
set_option maxRecDepth 100000 in
set_option maxHeartbeats 4000000 in
theorem quote_calls (W : World) (A : Option Addr) (c : Nat) (l : List Int) (hC : Kd.C (Kd.int .u8) W A l.length l) (hc : l.length ≤ c) (hl : ∀ x ∈ l, 0 ≤ x ∧ x < 256) (hn : l.length ≤ 1000000) :
    Calls Try.prog 12 #[.slice A l.length c] W fun e w' => e = .returned (.string ⟨(quo l).toArray⟩) ∧ Below W.heap.size W w' := by
  have HC := Aside0.mk hC
  have HL := Aside0.mk hl
  have HN := Aside0.mk hn
  have HB0 := Aside0.mk (below_alloc (Below.refl W.heap.size W) (.cells #[.pointer none, .slice none 0 0] 53))
  have HI0 := Aside0.mk (Lib.fresh_isBuilder 53 5 W)
  clear hC hl hn hc
  go_enter Try.func12, Try.ntmps12
  go_wp2_with fail
  go_loopg [5, 8] (l.length + 1) (fun kq v5 v8 w' => ∃ (i : Nat), v8 = .int .i64 (i : Int) ∧ i ≤ l.length ∧ i + kq = l.length + 1 ∧ Aside0 (Lib.IsBuilder 53 5 W.heap.size W.heap.size (Lib.byteCells (quo (l.take i))) w') ∧ Aside0 (Below W.heap.size W w'))
  case atStart => exact ⟨0, rfl, Nat.zero_le _, by omega, HI0, HB0⟩
  case round =>
    obtain ⟨i, rfl, hi, hk, HI, HB⟩ := hrel
    clear HI0 HB0
    cases gk with
    | zero => exact absurd hk (by omega)
    | succ kr =>
      have hw : IntKind.i64.wrap ((i : Int) + 1) = ((i + 1 : Nat) : Int) := by rw [IntKind.wrap_i64]; have := HN.out; omega
      by_cases hlt : i < l.length
      · have hlI : decide ((i : Int) < (l.length : Int)) = true := decide_eq_true (by omega)
        obtain ⟨ad, ead, hx0⟩ := Kd.at_int HC.out (i : Int) (by omega) (by omega)
        cases ead
        replace hx0 := (HB.out.cell (World.block_lt_of_cell? W _ hx0)).trans hx0
        have hxl : rd l (i : Int) = l[i] := by simp [rd, hlt]
        have hT := quo_take l i hlt
        have hX := HL.out l[i] (List.getElem_mem hlt)
        rw [hxl] at hx0
        simp only [Int.toNat_natCast] at hx0
        obtain ⟨x, hx⟩ : ∃ x, l[i] = x := ⟨_, rfl⟩
        rw [hx] at hx0 hT hX
        have HT := Aside0.mk hT
        have HX := Aside0.mk hX
        have p0 : (0 ≤ (i : Int)) = True := eq_true (by omega)
        have q0 : ((i : Int) < (l.length : Int)) = True := eq_true (by omega)
        have Q := Aside0.mk (show i + 1 ≤ l.length ∧ i + 1 + kr = l.length + 1 by omega)
        have HQ3 := Aside0.mk (show (Lib.byteCells (quo (l.take i))).length ≤ 3000000 by
          rw [Lib.byteCells_length]
          have := quo_len (l.take i)
          have := HN.out
          rw [List.length_take] at *
          omega)
        have hs4 := shr_of x hX.1 hX.2
        have hw5 : IntKind.u8.wrap (x / 16 + 1) = x / 16 + 1 := by rw [IntKind.wrap_u8]; omega
        have hw6 : IntKind.u8.wrap (x % 16 + 1) = x % 16 + 1 := by rw [IntKind.wrap_u8]; omega
        have ha15 := u8_and15 x hX.1 hX.2
        have HH := Aside0.mk (hex_of x hX.1 hX.2)
        have hb1 : (0 ≤ x / 16) = True := eq_true (by omega)
        have hb2 : (x / 16 ≤ x / 16 + 1) = True := eq_true (by omega)
        have hb3 : (x / 16 + 1 ≤ 16) = True := eq_true (by omega)
        have hb4 : (0 ≤ x % 16) = True := eq_true (by omega)
        have hb5 : (x % 16 ≤ x % 16 + 1) = True := eq_true (by omega)
        have hb6 : (x % 16 + 1 ≤ 16) = True := eq_true (by omega)
        clear hX hT hx hxl hlt hi hk
        by_cases h1 : 32 ≤ x
        · have d1 : decide (x ≥ 32) = true := decide_eq_true h1
          by_cases h2 : x < 127
          · have d2 : decide (x < 127) = true := decide_eq_true h2
            by_cases h3 : x = 34
            · have d3 : (x != 34) = false := bne_eq_false_iff_eq.mpr h3
              have HP := Aside0.mk (show quo1 x = [92, hexc (x / 16), hexc (x % 16)] by unfold quo1; rw [if_neg (by simp [plain, h3])])
              clear h1 h2 h3
              go_upto_region 7 with fail
              refine wp_region_heldP (fun _ _ => True) (by kernel_rfl) ?_
              simp only [List.size_toArray, List.length_cons, List.length_nil, Nat.zero_add, Nat.reduceAdd, Array.replicate, List.replicate]
              refine takeA 0 (.int .u8 x) rfl (by kernel_rfl) (by kernel_rfl) (by kernel_rfl) (fun _ _ _ h => h) (by rfl) (by intro w; go_simp) ?_
              simp only [Act.put, List.setIfInBounds_toArray, List.set_cons_zero, List.set_cons_succ]
              refine takeA 1 (.int .u8 (x / 16)) rfl (by kernel_rfl) (by kernel_rfl) (by kernel_rfl) (fun _ _ _ h => h) (by rfl) (by intro w; go_simp) ?_
              simp only [Act.put, List.setIfInBounds_toArray, List.set_cons_zero, List.set_cons_succ]
              refine takeA 2 (.int .u8 x) rfl (by kernel_rfl) (by kernel_rfl) (by kernel_rfl) (fun _ _ _ h => h) (by rfl) (by intro w; go_simp) ?_
              simp only [Act.put, List.setIfInBounds_toArray, List.set_cons_zero, List.set_cons_succ]
              refine takeA 3 (.int .u8 (x / 16)) rfl (by kernel_rfl) (by kernel_rfl) (by kernel_rfl) (fun _ _ _ h => h) (by rfl) (by intro w; go_simp) ?_
              simp only [Act.put, List.setIfInBounds_toArray, List.set_cons_zero, List.set_cons_succ]
              refine takeA 4 (.int .u8 (x / 16 + 1)) rfl (by kernel_rfl) (by kernel_rfl) (by kernel_rfl) (fun _ _ _ h => h) (by rfl) (by intro w; go_simp) ?_
              simp only [Act.put, List.setIfInBounds_toArray, List.set_cons_zero, List.set_cons_succ]
              refine takeA 5 (.string (hexs.extract (x / 16).toNat (x / 16 + 1).toNat)) rfl (by kernel_rfl) (by kernel_rfl) (by kernel_rfl) (fun _ _ _ h => h) (by rfl) (by intro w; go_simp) ?_
              simp only [Act.put, List.setIfInBounds_toArray, List.set_cons_zero, List.set_cons_succ]
              refine takeA 6 (.string (⟨#[92]⟩ ++ hexs.extract (x / 16).toNat (x / 16 + 1).toNat)) rfl (by kernel_rfl) (by kernel_rfl) (by kernel_rfl) (fun _ _ _ h => h) (by rfl) (by intro w; go_simp; omega) ?_
              simp only [Act.put, List.setIfInBounds_toArray, List.set_cons_zero, List.set_cons_succ]
              refine takeA 7 (.int .u8 x) rfl (by kernel_rfl) (by kernel_rfl) (by kernel_rfl) (fun _ _ _ h => h) (by rfl) (by intro w; go_simp) ?_
              simp only [Act.put, List.setIfInBounds_toArray, List.set_cons_zero, List.set_cons_succ]
              refine takeA 8 (.int .u8 (x % 16)) rfl (by kernel_rfl) (by kernel_rfl) (by kernel_rfl) (fun _ _ _ h => h) (by rfl) (by intro w; go_simp) ?_
              simp only [Act.put, List.setIfInBounds_toArray, List.set_cons_zero, List.set_cons_succ]
              refine takeA 9 (.int .u8 x) rfl (by kernel_rfl) (by kernel_rfl) (by kernel_rfl) (fun _ _ _ h => h) (by rfl) (by intro w; go_simp) ?_
              simp only [Act.put, List.setIfInBounds_toArray, List.set_cons_zero, List.set_cons_succ]
              refine takeA 10 (.int .u8 (x % 16)) rfl (by kernel_rfl) (by kernel_rfl) (by kernel_rfl) (fun _ _ _ h => h) (by rfl) (by intro w; go_simp) ?_
              simp only [Act.put, List.setIfInBounds_toArray, List.set_cons_zero, List.set_cons_succ]
              refine takeA 11 (.int .u8 (x % 16 + 1)) rfl (by kernel_rfl) (by kernel_rfl) (by kernel_rfl) (fun _ _ _ h => h) (by rfl) (by intro w; go_simp) ?_
              simp only [Act.put, List.setIfInBounds_toArray, List.set_cons_zero, List.set_cons_succ]
              refine takeA 12 (.string (hexs.extract (x % 16).toNat (x % 16 + 1).toNat)) rfl (by kernel_rfl) (by kernel_rfl) (by kernel_rfl) (fun _ _ _ h => h) (by rfl) (by intro w; go_simp) ?_
              simp only [Act.put, List.setIfInBounds_toArray, List.set_cons_zero, List.set_cons_succ]
              refine takeA 13 (.string ⟨[92, hexc (x / 16), hexc (x % 16)].toArray⟩) rfl (by kernel_rfl) (by kernel_rfl) (by kernel_rfl) (fun _ _ _ h => h) (by rfl) (by intro w; rw [← HH.out]; go_simp; omega) ?_
              simp only [Act.put, List.setIfInBounds_toArray, List.set_cons_zero, List.set_cons_succ]
              refine wpAnyP_one (i := 14) (by kernel_rfl) (wpOp_run (i := 14) rfl (fun K14 hK14 => ?_))
              go_simp
              refine (write_string W.heap.size W.heap.size _ _ _ (builder_drew HI.out) (by have := HQ3.out; have e3 : (⟨[92, hexc (x / 16), hexc (x % 16)].toArray⟩ : ByteArray).size = 3 := rfl; omega) (below_drew HB.out).size).mono ?_
              rintro e w2 ⟨rfl, hI2, hB2⟩
              have HI2 := Aside0.mk hI2; have HB2 := Aside0.mk ((below_drew HB.out).trans hB2); clear hI2 hB2
              refine hK14.out _ _ ⟨trivial, ?_⟩
              clear hK14 K14
              simp only [Act.put, List.setIfInBounds_toArray, List.set_cons_zero, List.set_cons_succ]
              refine wpAnyP_done (by kernel_rfl) ?_ _
              go_wp2_with fail
              go_roundg kr
              case measure => omega
              case rel =>
                refine ⟨i + 1, (by first | rfl | (rw [← hw]; rfl) | (simp; done) | (simp [*]; done)), Q.out.1, Q.out.2, ⟨.inr ?_⟩, HB2⟩
                have hh := HI2.out
                rw [HT.out, HP.out, Lib.byteCells_append]
                exact hh
            · have d3 : (x != 34) = true := bne_iff_ne.mpr h3
              by_cases h4 : x = 92
              · have d4 : (x != 92) = false := bne_eq_false_iff_eq.mpr h4
                have HP := Aside0.mk (show quo1 x = [92, hexc (x / 16), hexc (x % 16)] by unfold quo1; rw [if_neg (by simp [plain, h4])])
                clear h1 h2 h3 h4
                go_upto_region 7 with fail
                refine wp_region_heldP (fun _ _ => True) (by kernel_rfl) ?_
                simp only [List.size_toArray, List.length_cons, List.length_nil, Nat.zero_add, Nat.reduceAdd, Array.replicate, List.replicate]
                refine takeA 0 (.int .u8 x) rfl (by kernel_rfl) (by kernel_rfl) (by kernel_rfl) (fun _ _ _ h => h) (by rfl) (by intro w; go_simp) ?_
                simp only [Act.put, List.setIfInBounds_toArray, List.set_cons_zero, List.set_cons_succ]
                refine takeA 1 (.int .u8 (x / 16)) rfl (by kernel_rfl) (by kernel_rfl) (by kernel_rfl) (fun _ _ _ h => h) (by rfl) (by intro w; go_simp) ?_
                simp only [Act.put, List.setIfInBounds_toArray, List.set_cons_zero, List.set_cons_succ]
                refine takeA 2 (.int .u8 x) rfl (by kernel_rfl) (by kernel_rfl) (by kernel_rfl) (fun _ _ _ h => h) (by rfl) (by intro w; go_simp) ?_
                simp only [Act.put, List.setIfInBounds_toArray, List.set_cons_zero, List.set_cons_succ]
                refine takeA 3 (.int .u8 (x / 16)) rfl (by kernel_rfl) (by kernel_rfl) (by kernel_rfl) (fun _ _ _ h => h) (by rfl) (by intro w; go_simp) ?_
                simp only [Act.put, List.setIfInBounds_toArray, List.set_cons_zero, List.set_cons_succ]
                refine takeA 4 (.int .u8 (x / 16 + 1)) rfl (by kernel_rfl) (by kernel_rfl) (by kernel_rfl) (fun _ _ _ h => h) (by rfl) (by intro w; go_simp) ?_
                simp only [Act.put, List.setIfInBounds_toArray, List.set_cons_zero, List.set_cons_succ]
                refine takeA 5 (.string (hexs.extract (x / 16).toNat (x / 16 + 1).toNat)) rfl (by kernel_rfl) (by kernel_rfl) (by kernel_rfl) (fun _ _ _ h => h) (by rfl) (by intro w; go_simp) ?_
                simp only [Act.put, List.setIfInBounds_toArray, List.set_cons_zero, List.set_cons_succ]
                refine takeA 6 (.string (⟨#[92]⟩ ++ hexs.extract (x / 16).toNat (x / 16 + 1).toNat)) rfl (by kernel_rfl) (by kernel_rfl) (by kernel_rfl) (fun _ _ _ h => h) (by rfl) (by intro w; go_simp; omega) ?_
                simp only [Act.put, List.setIfInBounds_toArray, List.set_cons_zero, List.set_cons_succ]
                refine takeA 7 (.int .u8 x) rfl (by kernel_rfl) (by kernel_rfl) (by kernel_rfl) (fun _ _ _ h => h) (by rfl) (by intro w; go_simp) ?_
                simp only [Act.put, List.setIfInBounds_toArray, List.set_cons_zero, List.set_cons_succ]
                refine takeA 8 (.int .u8 (x % 16)) rfl (by kernel_rfl) (by kernel_rfl) (by kernel_rfl) (fun _ _ _ h => h) (by rfl) (by intro w; go_simp) ?_
                simp only [Act.put, List.setIfInBounds_toArray, List.set_cons_zero, List.set_cons_succ]
                refine takeA 9 (.int .u8 x) rfl (by kernel_rfl) (by kernel_rfl) (by kernel_rfl) (fun _ _ _ h => h) (by rfl) (by intro w; go_simp) ?_
                simp only [Act.put, List.setIfInBounds_toArray, List.set_cons_zero, List.set_cons_succ]
                refine takeA 10 (.int .u8 (x % 16)) rfl (by kernel_rfl) (by kernel_rfl) (by kernel_rfl) (fun _ _ _ h => h) (by rfl) (by intro w; go_simp) ?_
                simp only [Act.put, List.setIfInBounds_toArray, List.set_cons_zero, List.set_cons_succ]
                refine takeA 11 (.int .u8 (x % 16 + 1)) rfl (by kernel_rfl) (by kernel_rfl) (by kernel_rfl) (fun _ _ _ h => h) (by rfl) (by intro w; go_simp) ?_
                simp only [Act.put, List.setIfInBounds_toArray, List.set_cons_zero, List.set_cons_succ]
                refine takeA 12 (.string (hexs.extract (x % 16).toNat (x % 16 + 1).toNat)) rfl (by kernel_rfl) (by kernel_rfl) (by kernel_rfl) (fun _ _ _ h => h) (by rfl) (by intro w; go_simp) ?_
                simp only [Act.put, List.setIfInBounds_toArray, List.set_cons_zero, List.set_cons_succ]
                refine takeA 13 (.string ⟨[92, hexc (x / 16), hexc (x % 16)].toArray⟩) rfl (by kernel_rfl) (by kernel_rfl) (by kernel_rfl) (fun _ _ _ h => h) (by rfl) (by intro w; rw [← HH.out]; go_simp; omega) ?_
                simp only [Act.put, List.setIfInBounds_toArray, List.set_cons_zero, List.set_cons_succ]
                refine wpAnyP_one (i := 14) (by kernel_rfl) (wpOp_run (i := 14) rfl (fun K14 hK14 => ?_))
                go_simp
                refine (write_string W.heap.size W.heap.size _ _ _ (builder_drew HI.out) (by have := HQ3.out; have e3 : (⟨[92, hexc (x / 16), hexc (x % 16)].toArray⟩ : ByteArray).size = 3 := rfl; omega) (below_drew HB.out).size).mono ?_
                rintro e w2 ⟨rfl, hI2, hB2⟩
                have HI2 := Aside0.mk hI2; have HB2 := Aside0.mk ((below_drew HB.out).trans hB2); clear hI2 hB2
                refine hK14.out _ _ ⟨trivial, ?_⟩
                clear hK14 K14
                simp only [Act.put, List.setIfInBounds_toArray, List.set_cons_zero, List.set_cons_succ]
                refine wpAnyP_done (by kernel_rfl) ?_ _
                go_wp2_with fail
                go_roundg kr
                case measure => omega
                case rel =>
                  refine ⟨i + 1, (by first | rfl | (rw [← hw]; rfl) | (simp; done) | (simp [*]; done)), Q.out.1, Q.out.2, ⟨.inr ?_⟩, HB2⟩
                  have hh := HI2.out
                  rw [HT.out, HP.out, Lib.byteCells_append]
                  exact hh
              · have d4 : (x != 92) = true := bne_iff_ne.mpr h4
                have HP := Aside0.mk (show quo1 x = [x.toNat.toUInt8] by unfold quo1; rw [if_pos (by simp [plain, h1, h2, h3, h4])])
                clear h1 h2 h3 h4
                go_upto_region 6 with fail
                go_wp2_with (go_at_call 23; (refine (write_byte W.heap.size W.heap.size _ x _ HI.out (by have := HQ3.out; omega) HB.out.size).mono ?_); rintro e w2 ⟨rfl, hI2, hB2⟩; have HI2 := Aside0.mk hI2; have HB2 := Aside0.mk (HB.out.trans hB2); clear hI2 hB2)
                go_roundg kr
                case measure => omega
                case rel =>
                  refine ⟨i + 1, (by first | rfl | (rw [← hw]; rfl) | (simp; done) | (simp [*]; done)), Q.out.1, Q.out.2, ⟨.inr ?_⟩, HB2⟩
                  have hh := HI2.out
                  rw [HT.out, HP.out, Lib.byteCells_append]
                  have e1 : Lib.byteCells [x.toNat.toUInt8] = [.int .u8 x] := by have := HX.out; simp [Lib.byteCells]; omega
                  rw [e1]
                  exact hh
          · have d2 : decide (x < 127) = false := decide_eq_false h2
            have HP := Aside0.mk (show quo1 x = [92, hexc (x / 16), hexc (x % 16)] by unfold quo1; rw [if_neg (by simp [plain, h2])])
            clear h1 h2
            go_upto_region 7 with fail
            refine wp_region_heldP (fun _ _ => True) (by kernel_rfl) ?_
            simp only [List.size_toArray, List.length_cons, List.length_nil, Nat.zero_add, Nat.reduceAdd, Array.replicate, List.replicate]
            refine takeA 0 (.int .u8 x) rfl (by kernel_rfl) (by kernel_rfl) (by kernel_rfl) (fun _ _ _ h => h) (by rfl) (by intro w; go_simp) ?_
            simp only [Act.put, List.setIfInBounds_toArray, List.set_cons_zero, List.set_cons_succ]
            refine takeA 1 (.int .u8 (x / 16)) rfl (by kernel_rfl) (by kernel_rfl) (by kernel_rfl) (fun _ _ _ h => h) (by rfl) (by intro w; go_simp) ?_
            simp only [Act.put, List.setIfInBounds_toArray, List.set_cons_zero, List.set_cons_succ]
            refine takeA 2 (.int .u8 x) rfl (by kernel_rfl) (by kernel_rfl) (by kernel_rfl) (fun _ _ _ h => h) (by rfl) (by intro w; go_simp) ?_
            simp only [Act.put, List.setIfInBounds_toArray, List.set_cons_zero, List.set_cons_succ]
            refine takeA 3 (.int .u8 (x / 16)) rfl (by kernel_rfl) (by kernel_rfl) (by kernel_rfl) (fun _ _ _ h => h) (by rfl) (by intro w; go_simp) ?_
            simp only [Act.put, List.setIfInBounds_toArray, List.set_cons_zero, List.set_cons_succ]
            refine takeA 4 (.int .u8 (x / 16 + 1)) rfl (by kernel_rfl) (by kernel_rfl) (by kernel_rfl) (fun _ _ _ h => h) (by rfl) (by intro w; go_simp) ?_
            simp only [Act.put, List.setIfInBounds_toArray, List.set_cons_zero, List.set_cons_succ]
            refine takeA 5 (.string (hexs.extract (x / 16).toNat (x / 16 + 1).toNat)) rfl (by kernel_rfl) (by kernel_rfl) (by kernel_rfl) (fun _ _ _ h => h) (by rfl) (by intro w; go_simp) ?_
            simp only [Act.put, List.setIfInBounds_toArray, List.set_cons_zero, List.set_cons_succ]
            refine takeA 6 (.string (⟨#[92]⟩ ++ hexs.extract (x / 16).toNat (x / 16 + 1).toNat)) rfl (by kernel_rfl) (by kernel_rfl) (by kernel_rfl) (fun _ _ _ h => h) (by rfl) (by intro w; go_simp; omega) ?_
            simp only [Act.put, List.setIfInBounds_toArray, List.set_cons_zero, List.set_cons_succ]
            refine takeA 7 (.int .u8 x) rfl (by kernel_rfl) (by kernel_rfl) (by kernel_rfl) (fun _ _ _ h => h) (by rfl) (by intro w; go_simp) ?_
            simp only [Act.put, List.setIfInBounds_toArray, List.set_cons_zero, List.set_cons_succ]
            refine takeA 8 (.int .u8 (x % 16)) rfl (by kernel_rfl) (by kernel_rfl) (by kernel_rfl) (fun _ _ _ h => h) (by rfl) (by intro w; go_simp) ?_
            simp only [Act.put, List.setIfInBounds_toArray, List.set_cons_zero, List.set_cons_succ]
            refine takeA 9 (.int .u8 x) rfl (by kernel_rfl) (by kernel_rfl) (by kernel_rfl) (fun _ _ _ h => h) (by rfl) (by intro w; go_simp) ?_
            simp only [Act.put, List.setIfInBounds_toArray, List.set_cons_zero, List.set_cons_succ]
            refine takeA 10 (.int .u8 (x % 16)) rfl (by kernel_rfl) (by kernel_rfl) (by kernel_rfl) (fun _ _ _ h => h) (by rfl) (by intro w; go_simp) ?_
            simp only [Act.put, List.setIfInBounds_toArray, List.set_cons_zero, List.set_cons_succ]
            refine takeA 11 (.int .u8 (x % 16 + 1)) rfl (by kernel_rfl) (by kernel_rfl) (by kernel_rfl) (fun _ _ _ h => h) (by rfl) (by intro w; go_simp) ?_
            simp only [Act.put, List.setIfInBounds_toArray, List.set_cons_zero, List.set_cons_succ]
            refine takeA 12 (.string (hexs.extract (x % 16).toNat (x % 16 + 1).toNat)) rfl (by kernel_rfl) (by kernel_rfl) (by kernel_rfl) (fun _ _ _ h => h) (by rfl) (by intro w; go_simp) ?_
            simp only [Act.put, List.setIfInBounds_toArray, List.set_cons_zero, List.set_cons_succ]
            refine takeA 13 (.string ⟨[92, hexc (x / 16), hexc (x % 16)].toArray⟩) rfl (by kernel_rfl) (by kernel_rfl) (by kernel_rfl) (fun _ _ _ h => h) (by rfl) (by intro w; rw [← HH.out]; go_simp; omega) ?_
            simp only [Act.put, List.setIfInBounds_toArray, List.set_cons_zero, List.set_cons_succ]
            refine wpAnyP_one (i := 14) (by kernel_rfl) (wpOp_run (i := 14) rfl (fun K14 hK14 => ?_))
            go_simp
            refine (write_string W.heap.size W.heap.size _ _ _ (builder_drew HI.out) (by have := HQ3.out; have e3 : (⟨[92, hexc (x / 16), hexc (x % 16)].toArray⟩ : ByteArray).size = 3 := rfl; omega) (below_drew HB.out).size).mono ?_
            rintro e w2 ⟨rfl, hI2, hB2⟩
            have HI2 := Aside0.mk hI2; have HB2 := Aside0.mk ((below_drew HB.out).trans hB2); clear hI2 hB2
            refine hK14.out _ _ ⟨trivial, ?_⟩
            clear hK14 K14
            simp only [Act.put, List.setIfInBounds_toArray, List.set_cons_zero, List.set_cons_succ]
            refine wpAnyP_done (by kernel_rfl) ?_ _
            go_wp2_with fail
            go_roundg kr
            case measure => omega
            case rel =>
              refine ⟨i + 1, (by first | rfl | (rw [← hw]; rfl) | (simp; done) | (simp [*]; done)), Q.out.1, Q.out.2, ⟨.inr ?_⟩, HB2⟩
              have hh := HI2.out
              rw [HT.out, HP.out, Lib.byteCells_append]
              exact hh
        · have d1 : decide (x ≥ 32) = false := decide_eq_false h1
          have HP := Aside0.mk (show quo1 x = [92, hexc (x / 16), hexc (x % 16)] by unfold quo1; rw [if_neg (by simp [plain, h1])])
          clear h1
          go_upto_region 7 with fail
          refine wp_region_heldP (fun _ _ => True) (by kernel_rfl) ?_
          simp only [List.size_toArray, List.length_cons, List.length_nil, Nat.zero_add, Nat.reduceAdd, Array.replicate, List.replicate]
          refine takeA 0 (.int .u8 x) rfl (by kernel_rfl) (by kernel_rfl) (by kernel_rfl) (fun _ _ _ h => h) (by rfl) (by intro w; go_simp) ?_
          simp only [Act.put, List.setIfInBounds_toArray, List.set_cons_zero, List.set_cons_succ]
          refine takeA 1 (.int .u8 (x / 16)) rfl (by kernel_rfl) (by kernel_rfl) (by kernel_rfl) (fun _ _ _ h => h) (by rfl) (by intro w; go_simp) ?_
          simp only [Act.put, List.setIfInBounds_toArray, List.set_cons_zero, List.set_cons_succ]
          refine takeA 2 (.int .u8 x) rfl (by kernel_rfl) (by kernel_rfl) (by kernel_rfl) (fun _ _ _ h => h) (by rfl) (by intro w; go_simp) ?_
          simp only [Act.put, List.setIfInBounds_toArray, List.set_cons_zero, List.set_cons_succ]
          refine takeA 3 (.int .u8 (x / 16)) rfl (by kernel_rfl) (by kernel_rfl) (by kernel_rfl) (fun _ _ _ h => h) (by rfl) (by intro w; go_simp) ?_
          simp only [Act.put, List.setIfInBounds_toArray, List.set_cons_zero, List.set_cons_succ]
          refine takeA 4 (.int .u8 (x / 16 + 1)) rfl (by kernel_rfl) (by kernel_rfl) (by kernel_rfl) (fun _ _ _ h => h) (by rfl) (by intro w; go_simp) ?_
          simp only [Act.put, List.setIfInBounds_toArray, List.set_cons_zero, List.set_cons_succ]
          refine takeA 5 (.string (hexs.extract (x / 16).toNat (x / 16 + 1).toNat)) rfl (by kernel_rfl) (by kernel_rfl) (by kernel_rfl) (fun _ _ _ h => h) (by rfl) (by intro w; go_simp) ?_
          simp only [Act.put, List.setIfInBounds_toArray, List.set_cons_zero, List.set_cons_succ]
          refine takeA 6 (.string (⟨#[92]⟩ ++ hexs.extract (x / 16).toNat (x / 16 + 1).toNat)) rfl (by kernel_rfl) (by kernel_rfl) (by kernel_rfl) (fun _ _ _ h => h) (by rfl) (by intro w; go_simp; omega) ?_
          simp only [Act.put, List.setIfInBounds_toArray, List.set_cons_zero, List.set_cons_succ]
          refine takeA 7 (.int .u8 x) rfl (by kernel_rfl) (by kernel_rfl) (by kernel_rfl) (fun _ _ _ h => h) (by rfl) (by intro w; go_simp) ?_
          simp only [Act.put, List.setIfInBounds_toArray, List.set_cons_zero, List.set_cons_succ]
          refine takeA 8 (.int .u8 (x % 16)) rfl (by kernel_rfl) (by kernel_rfl) (by kernel_rfl) (fun _ _ _ h => h) (by rfl) (by intro w; go_simp) ?_
          simp only [Act.put, List.setIfInBounds_toArray, List.set_cons_zero, List.set_cons_succ]
          refine takeA 9 (.int .u8 x) rfl (by kernel_rfl) (by kernel_rfl) (by kernel_rfl) (fun _ _ _ h => h) (by rfl) (by intro w; go_simp) ?_
          simp only [Act.put, List.setIfInBounds_toArray, List.set_cons_zero, List.set_cons_succ]
          refine takeA 10 (.int .u8 (x % 16)) rfl (by kernel_rfl) (by kernel_rfl) (by kernel_rfl) (fun _ _ _ h => h) (by rfl) (by intro w; go_simp) ?_
          simp only [Act.put, List.setIfInBounds_toArray, List.set_cons_zero, List.set_cons_succ]
          refine takeA 11 (.int .u8 (x % 16 + 1)) rfl (by kernel_rfl) (by kernel_rfl) (by kernel_rfl) (fun _ _ _ h => h) (by rfl) (by intro w; go_simp) ?_
          simp only [Act.put, List.setIfInBounds_toArray, List.set_cons_zero, List.set_cons_succ]
          refine takeA 12 (.string (hexs.extract (x % 16).toNat (x % 16 + 1).toNat)) rfl (by kernel_rfl) (by kernel_rfl) (by kernel_rfl) (fun _ _ _ h => h) (by rfl) (by intro w; go_simp) ?_
          simp only [Act.put, List.setIfInBounds_toArray, List.set_cons_zero, List.set_cons_succ]
          refine takeA 13 (.string ⟨[92, hexc (x / 16), hexc (x % 16)].toArray⟩) rfl (by kernel_rfl) (by kernel_rfl) (by kernel_rfl) (fun _ _ _ h => h) (by rfl) (by intro w; rw [← HH.out]; go_simp; omega) ?_
          simp only [Act.put, List.setIfInBounds_toArray, List.set_cons_zero, List.set_cons_succ]
          refine wpAnyP_one (i := 14) (by kernel_rfl) (wpOp_run (i := 14) rfl (fun K14 hK14 => ?_))
          go_simp
          refine (write_string W.heap.size W.heap.size _ _ _ (builder_drew HI.out) (by have := HQ3.out; have e3 : (⟨[92, hexc (x / 16), hexc (x % 16)].toArray⟩ : ByteArray).size = 3 := rfl; omega) (below_drew HB.out).size).mono ?_
          rintro e w2 ⟨rfl, hI2, hB2⟩
          have HI2 := Aside0.mk hI2; have HB2 := Aside0.mk ((below_drew HB.out).trans hB2); clear hI2 hB2
          refine hK14.out _ _ ⟨trivial, ?_⟩
          clear hK14 K14
          simp only [Act.put, List.setIfInBounds_toArray, List.set_cons_zero, List.set_cons_succ]
          refine wpAnyP_done (by kernel_rfl) ?_ _
          go_wp2_with fail
          go_roundg kr
          case measure => omega
          case rel =>
            refine ⟨i + 1, (by first | rfl | (rw [← hw]; rfl) | (simp; done) | (simp [*]; done)), Q.out.1, Q.out.2, ⟨.inr ?_⟩, HB2⟩
            have hh := HI2.out
            rw [HT.out, HP.out, Lib.byteCells_append]
            exact hh
      · have hlI : decide ((i : Int) < (l.length : Int)) = false := decide_eq_false (by omega)
        have hlN : (i < l.length) = False := eq_false hlt
        have ei : l.take i = l := List.take_of_length_le (by omega)
        have HI9 := Aside0.mk (show Lib.IsBuilder 53 5 W.heap.size W.heap.size (Lib.byteCells (quo l)) wr by have := HI.out; rw [ei] at this; exact this)
        clear HI hlt ei hi hk
        go_wp2_with (go_at_call 25; (refine (Go.Proofs.Try.Builder_String_any W.heap.size W.heap.size (quo l) _ HI9.out HB.out.size).mono ?_); rintro e w2 ⟨rfl, hB2⟩; have HB2 := Aside0.mk (HB.out.trans hB2); clear hB2)
        go_ret
        exact ⟨rfl, HB2.out⟩
end Go.Proofs.Ytjenbegobpfclaa.Tx
