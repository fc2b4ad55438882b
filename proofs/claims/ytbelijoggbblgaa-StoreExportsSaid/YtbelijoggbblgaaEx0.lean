/- The document's SameIns of a list and itself, wherever it lies. -/
import Derived.Test.YtbelijoggbblgaaRStoreExportsx1
namespace Go.Proofs.Ytbelijoggbblgaa.Ex
open Go.RowKit Go.Proofs.YtbelijoggbblgaaW.PrintWords Go.Proofs.YtbelijoggbblgaaW.PrintLast Go.Proofs.Ytbelijoggbblgaa.RStoreExports
set_option linter.unusedVariables false
set_option linter.unusedSimpArgs false
abbrev Row := @St.Row
theorem ints_l0 (xs : List Int) (hx : xs.length ≤ 9223372036854775807) : ∀ (d : Nat) (i : Nat), xs.length - i = d → i ≤ xs.length → ∀ k, d < k → grommetref05_Ints.l0 k xs xs (i : Int) = some true
  | 0, i, hd, hi, k, hk => by
    obtain ⟨k, rfl⟩ : ∃ m, k = m + 1 := ⟨k - 1, by omega⟩
    rw [grommetref05_Ints.l0]
    rw [if_neg (by omega)]
  | d + 1, i, hd, hi, k, hk => by
    obtain ⟨k, rfl⟩ : ∃ m, k = m + 1 := ⟨k - 1, by omega⟩
    rw [grommetref05_Ints.l0]
    rw [if_pos (show (i : Int) < (xs.length : Int) by omega), if_pos (show (0 : Int) ≤ (i : Int) by omega), if_pos (show (i : Int) < (xs.length : Int) by omega), if_pos rfl]
    have e : wrap64 ((i : Int) + 1) = ((i + 1 : Nat) : Int) := by unfold wrap64; omega
    rw [e]
    exact ints_l0 xs hx d (i + 1) (by omega) (by omega) k (by omega)
theorem ints_self {w : World} {A B : Option Addr} {c d : Nat} (xs : List Int) (h : (Kd.int .i64).C w A xs.length xs) (hc : xs.length ≤ c) (k : (Kd.int .i64).C w B xs.length xs) (hd : xs.length ≤ d) :
    Calls Try.prog 14 #[.slice A xs.length c, .slice B xs.length d] w fun e w' => e = .returned (.bool true) ∧ Drawn0 w w' := by
  refine grommetref05_Ints.calls (xs.length + 1) A c xs B d xs true w h hc k hd ?_
  unfold grommetref05_Ints.f
  rw [if_pos rfl]
  exact ints_l0 xs h.2.1 xs.length 0 (by omega) (by omega) _ (by omega)
theorem ins_lt6 {x : S104} {l : List S104} (h : x ∈ l) : SizeOf.sizeOf x.f6 < SizeOf.sizeOf l := by
  have := List.sizeOf_lt_of_mem h
  cases x
  simp at this ⊢
  omega
theorem ins_lt7 {x : S104} {l : List S104} (h : x ∈ l) : SizeOf.sizeOf x.f7 < SizeOf.sizeOf l := by
  have := List.sizeOf_lt_of_mem h
  cases x
  simp at this ⊢
  omega
set_option maxHeartbeats 4000000 in
set_option maxRecDepth 100000 in
theorem sameIns_self (l : List S104) (A0 : Option Addr) (c0 : Nat) (A1 : Option Addr) (c1 : Nat) (w : World) (h0 : Kd.C k104 w A0 l.length l) (h1 : Kd.C k104 w A1 l.length l) :
    Calls Try.prog 33 #[.slice A0 l.length c0, .slice A1 l.length c1] w fun e w' => e = .returned (.bool true) ∧ Below w.heap.size w w' := by
  have ih := fun (x : S104) (hx : x ∈ l) => And.intro (fun A c A' c' W a b => sameIns_self x.f6 A c A' c' W a b) (fun A c A' c' W a b => sameIns_self x.f7 A c A' c' W a b)
  have hlen : l.length ≤ 9223372036854775807 := h0.2.1
  have IH := Aside0.mk ih
  have H0 := Aside0.mk h0
  have H1 := Aside0.mk h1
  have HL := Aside0.mk hlen
  clear ih h0 h1 hlen
  go_enter Try.func33, Try.ntmps33
  go_wp2_with fail
  go_loopg [5] l.length (fun kq v5 w' => ∃ i : Nat, v5 = .int .i64 i ∧ i + kq = l.length ∧ Aside0 (Below w.heap.size w w'))
  case atStart => exact ⟨0, rfl, by omega, ⟨Below.refl _ _⟩⟩
  case round =>
    obtain ⟨i, rfl, hi, hB⟩ := hrel
    cases gk with
    | zero =>
      have dn : (i < l.length) = False := eq_false (by omega)
      have dlt : decide ((i : Int) < (l.length : Int)) = false := decide_eq_false (by omega)
      clear hi
      go_wp2
      go_ret
      exact ⟨rfl, hB.out⟩
    | succ k2 =>
      have hk : i < l.length := by omega
      have dlt : decide ((i : Int) < (l.length : Int)) = true := decide_eq_true (by omega)
      have hw1 : IntKind.i64.wrap ((i : Int) + 1) = (i : Int) + 1 := by rw [IntKind.wrap_i64]; have := HL.out; omega
      have j0 : (0 : Int) ≤ (i : Int) := by omega
      have j1 : (i : Int) < (l.length : Int) := by omega
      obtain ⟨x, hx⟩ : ∃ x, rd_T104 l (i : Int) = x := ⟨_, rfl⟩
      have hmem : x ∈ l := by
        rw [← hx]; unfold rd_T104
        rw [Int.toNat_natCast, List.getD_eq_getElem?_getD, List.getElem?_eq_getElem hk]
        exact List.getElem_mem hk
      have IX := Aside0.mk (IH.out x hmem)
      have hq := at_T104 (Kd.C_below H0.out hB.out) i j0 j1
      have hr := at_T104 (Kd.C_below H1.out hB.out) i j0 j1
      rw [hx, Int.toNat_natCast] at hq hr
      obtain ⟨a, B5, d5, B6, d6, B7, d7, ea, q0, q1, q2, q3, q4, q5, q6, q7, q8, m5, C5, m6, C6, m7, C7⟩ := hq
      obtain ⟨b, E5, e5, E6, e6, E7, e7, eb, r0, r1, r2, r3, r4, r5, r6, r7, r8, n5, D5, n6, D6, n7, D7⟩ := hr
      subst ea
      subst eb
      go_upto_region 7 with fail
      obtain ⟨w2, hw2⟩ : ∃ w2, w2 = wr.alloc (.cells #[.int .i64 x.f0, .int .i64 x.f1, .int .i64 x.f2, .int .u64 x.f3, .int .i64 x.f4, .slice B5 x.f5.length d5, .slice B6 x.f6.length d6, .slice B7 x.f7.length d7, .bool x.f8] 104) := ⟨_, rfl⟩
      have ra : Row w2 wr.heap.size 104 #[.int .i64 x.f0, .int .i64 x.f1, .int .i64 x.f2, .int .u64 x.f3, .int .i64 x.f4, .slice B5 x.f5.length d5, .slice B6 x.f6.length d6, .slice B7 x.f7.length d7, .bool x.f8] := by rw [hw2]; exact St.Row.made _ _ _ rfl
      have hB2 : Below wr.heap.size wr w2 := by rw [hw2]; exact below_alloc (Below.refl _ _) _
      rw [← hw2]
      clear hw2
      have s0 := pw_cell_below hB2 r0
      have s1 := pw_cell_below hB2 r1
      have s2 := pw_cell_below hB2 r2
      have s3 := pw_cell_below hB2 r3
      have s4 := pw_cell_below hB2 r4
      have s5 := pw_cell_below hB2 r5
      have s6 := pw_cell_below hB2 r6
      have s7 := pw_cell_below hB2 r7
      have s8 := pw_cell_below hB2 r8
      have RA := Aside0.mk ra
      have HB2 := Aside0.mk hB2
      clear ra hB2 q0 q1 q2 q3 q4 q5 q6 q7 q8 r0 r1 r2 r3 r4 r5 r6 r7 r8
      go_upto_region 8 with fail
      obtain ⟨w3, hw3⟩ : ∃ w3, w3 = w2.alloc (.cells #[.int .i64 x.f0, .int .i64 x.f1, .int .i64 x.f2, .int .u64 x.f3, .int .i64 x.f4, .slice E5 x.f5.length e5, .slice E6 x.f6.length e6, .slice E7 x.f7.length e7, .bool x.f8] 104) := ⟨_, rfl⟩
      have rb : Row w3 w2.heap.size 104 #[.int .i64 x.f0, .int .i64 x.f1, .int .i64 x.f2, .int .u64 x.f3, .int .i64 x.f4, .slice E5 x.f5.length e5, .slice E6 x.f6.length e6, .slice E7 x.f7.length e7, .bool x.f8] := by rw [hw3]; exact St.Row.made _ _ _ rfl
      have hB3 : Below w2.heap.size w2 w3 := by rw [hw3]; exact below_alloc (Below.refl _ _) _
      rw [← hw3]
      clear hw3
      have ra3 : Row w3 wr.heap.size 104 #[.int .i64 x.f0, .int .i64 x.f1, .int .i64 x.f2, .int .u64 x.f3, .int .i64 x.f4, .slice B5 x.f5.length d5, .slice B6 x.f6.length d6, .slice B7 x.f7.length d7, .bool x.f8] := RA.out.below hB3 RA.out.lt
      have t0 : w3.cell? ⟨wr.heap.size, 0, none⟩ = some (.int .i64 x.f0) := ra3.cell 0
      have v0 : w3.cell? ⟨w2.heap.size, 0, none⟩ = some (.int .i64 x.f0) := rb.cell 0
      have t1 : w3.cell? ⟨wr.heap.size, 1, none⟩ = some (.int .i64 x.f1) := ra3.cell 1
      have v1 : w3.cell? ⟨w2.heap.size, 1, none⟩ = some (.int .i64 x.f1) := rb.cell 1
      have t2 : w3.cell? ⟨wr.heap.size, 2, none⟩ = some (.int .i64 x.f2) := ra3.cell 2
      have v2 : w3.cell? ⟨w2.heap.size, 2, none⟩ = some (.int .i64 x.f2) := rb.cell 2
      have t3 : w3.cell? ⟨wr.heap.size, 3, none⟩ = some (.int .u64 x.f3) := ra3.cell 3
      have v3 : w3.cell? ⟨w2.heap.size, 3, none⟩ = some (.int .u64 x.f3) := rb.cell 3
      have t4 : w3.cell? ⟨wr.heap.size, 4, none⟩ = some (.int .i64 x.f4) := ra3.cell 4
      have v4 : w3.cell? ⟨w2.heap.size, 4, none⟩ = some (.int .i64 x.f4) := rb.cell 4
      have t5 : w3.cell? ⟨wr.heap.size, 5, none⟩ = some (.slice B5 x.f5.length d5) := ra3.cell 5
      have v5 : w3.cell? ⟨w2.heap.size, 5, none⟩ = some (.slice E5 x.f5.length e5) := rb.cell 5
      have t6 : w3.cell? ⟨wr.heap.size, 6, none⟩ = some (.slice B6 x.f6.length d6) := ra3.cell 6
      have v6 : w3.cell? ⟨w2.heap.size, 6, none⟩ = some (.slice E6 x.f6.length e6) := rb.cell 6
      have t7 : w3.cell? ⟨wr.heap.size, 7, none⟩ = some (.slice B7 x.f7.length d7) := ra3.cell 7
      have v7 : w3.cell? ⟨w2.heap.size, 7, none⟩ = some (.slice E7 x.f7.length e7) := rb.cell 7
      have t8 : w3.cell? ⟨wr.heap.size, 8, none⟩ = some (.bool x.f8) := ra3.cell 8
      have v8 : w3.cell? ⟨w2.heap.size, 8, none⟩ = some (.bool x.f8) := rb.cell 8
      have hBW := HB2.out.trans (St.below_mono hB3 HB2.out.size)
      have CI := Aside0.mk (ints_self x.f5 (Kd.C_below C5 hBW) m5 (Kd.C_below D5 hBW) n5)
      have C6' := Aside0.mk (Kd.C_below C6 hBW)
      have D6' := Aside0.mk (Kd.C_below D6 hBW)
      have C7' := Aside0.mk (Kd.C_below C7 hBW)
      have D7' := Aside0.mk (Kd.C_below D7 hBW)
      have RA3 := Aside0.mk ra3
      have RB3 := Aside0.mk rb
      have HBW := Aside0.mk hBW
      clear ra3 rb hBW hB3 C5 C6 C7 D5 D6 D7 s0 s1 s2 s3 s4 s5 s6 s7 s8 RA HB2 m5 m6 m7 n5 n6 n7
      go_wp2_with (first
        | (go_at_call 14; (refine CI.out.mono ?_); rintro e w4 ⟨rfl, ⟨nd, rfl⟩⟩)
        | (go_at_call 33; (with_reducible refine (IX.out.1 _ _ _ _ _ (Kd.C_drewN C6'.out nd) (Kd.C_drewN D6'.out nd)).mono ?_); rintro e w5 ⟨rfl, hB5⟩; have T7 := pw_cell_below hB5 (show (w3.drewN nd).cell? ⟨wr.heap.size, 7, none⟩ = _ from t7); have V7 := pw_cell_below hB5 (show (w3.drewN nd).cell? ⟨w2.heap.size, 7, none⟩ = _ from v7); have C7'' := Aside0.mk (Kd.C_below (Kd.C_drewN C7'.out nd) hB5); have D7'' := Aside0.mk (Kd.C_below (Kd.C_drewN D7'.out nd) hB5); have HB5 := Aside0.mk hB5; clear hB5)
        | (go_at_call 33; (with_reducible refine (IX.out.2 _ _ _ _ _ C7''.out D7''.out).mono ?_); rintro e w6 ⟨rfl, hB6⟩; have HB6 := Aside0.mk hB6; clear hB6))
      go_roundg k2
      case measure => omega
      case rel => exact ⟨i + 1, (by first | rfl | (rw [← hw1]; rfl) | (simp; done) | (simp [*]; done)), by omega, ⟨hB.out.trans (St.below_mono ((pw_below_drewN HBW.out nd).trans (St.below_mono (HB5.out.trans (St.below_mono HB6.out HB5.out.size)) HBW.out.size)) hB.out.size)⟩⟩
termination_by SizeOf.sizeOf l
decreasing_by
  · exact ins_lt6 hx
  · exact ins_lt7 hx
end Go.Proofs.Ytbelijoggbblgaa.Ex
