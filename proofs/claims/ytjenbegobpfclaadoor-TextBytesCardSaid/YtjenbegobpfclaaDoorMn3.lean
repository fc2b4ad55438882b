/- strings.IndexRune of a rune beyond ASCII in three letters of ASCII: none. -/
import Derived.Test.YtjenbegobpfclaaDoorMn2
import Derived.WalkMore
set_option linter.unusedVariables false
set_option linter.unusedSimpArgs false
namespace Go.Proofs.YtjenbegobpfclaaDoor.Man
open Go.RowKit Go.Shelf Go.Proofs.YtjenbegobpfclaaDoorW.PrintWords
theorem inBlock_ret {n : Nat} {Q : Exit → Act → World → Prop} {a : Act} {w : World} : Exit.inBlock n Q .ret a w = Q .ret a w := rfl
theorem then_ret {K : Act → World → Prop} {Q : Exit → Act → World → Prop} {a : Act} {w : World} : Exit.then K Q .ret a w = Q .ret a w := rfl
theorem index_none (l : List UInt8) (b : UInt8) (h : ∀ x ∈ l, x ≠ b) : Lib.indexByte l b = -1 := by
  induction l with
  | nil => rfl
  | cons x r ih =>
    unfold Lib.indexByte
    rw [ih (fun y hy => h y (List.mem_cons_of_mem _ hy))]
    have : (x == b) = false := beq_eq_false_iff_ne.mpr (h x (List.mem_cons_self))
    rw [this]
    rfl
set_option maxRecDepth 100000 in
set_option maxHeartbeats 2000000 in
theorem rune_none (ch : ByteArray) (h3 : ch.size = 3) (ha : ∀ (i : Nat) (h : i < ch.size), (ch[i]'h).toNat < 128) (r : Int) (r0 : 128 ≤ r) (r1 : r ≤ 1114111) (r2 : r < 55296 ∨ 57343 < r) (w : World) :
    Calls Tryd.prog 46 #[.string ch, .int .i32 r] w fun e w' => e = .returned (.int .i64 (-1)) ∧ Below w.heap.size w w' := by
  have HA := Aside0.mk ha
  have H3 := Aside0.mk h3
  have z : (ch.size : Int) = 3 := by omega
  clear ha h3
  by_cases he : r = 65533
  · subst he
    go_enter Tryd.func46, Tryd.ntmps46
    go_wp2_with fail
    go_loopg [5, 6] 3 (fun g _ _ wx => ∃ i : Nat, i + g = 3 ∧ wx = w.iter ch i)
    case atStart => exact ⟨0, rfl, rfl⟩
    case round =>
      obtain ⟨i, hig, rfl⟩ := hrel
      cases gk with
      | zero =>
        obtain rfl : i = 3 := by omega
        have hnx := fun ty => run_next_end (P := Tryd.prog) w ch 3 ty (by rw [H3.out]; decide)
        go_wp2
        go_ret
        exact ⟨rfl, below_alloc (Below.refl _ _) _⟩
      | succ g =>
        have hi : i < ch.size := by rw [H3.out]; omega
        obtain ⟨x, hx⟩ : ∃ x : UInt8, ch[i]'hi = x := ⟨_, rfl⟩
        have hx128 : x.toNat < 128 := by rw [← hx]; exact HA.out i hi
        have hnx := fun ty => run_next_ascii (P := Tryd.prog) w ch i ty hi (by rw [hx]; exact hx128)
        rw [hx] at hnx
        have hne : ((x.toNat : Int) == 65533) = false := beq_eq_false_iff_ne.mpr (by omega)
        clear hx
        go_wp2
        go_roundg g
        case measure => omega
        case rel => exact ⟨i + 1, by omega, rfl⟩
  · have hne : (r == 65533) = false := beq_eq_false_iff_ne.mpr he
    obtain ⟨n, hn, hs, hb⟩ := encode_hi r r0 r1 r2
    obtain ⟨N, hN⟩ : ∃ N : Int, (n : Int) = N := ⟨_, rfl⟩
    obtain ⟨E, hE⟩ : ∃ E, Utf8.encode r = E := ⟨_, rfl⟩
    rw [hE] at hs hb
    rw [hN] at hb
    have zE : (E.size : Int) = N + 1 := by omega
    have HN := Aside0.mk (show N = 1 ∨ N = 2 ∨ N = 3 by omega)
    have HS := Aside0.mk hs
    have Hb := Aside0.mk hb
    have HNn := Aside0.mk hN
    have hwN : IntKind.i64.wrap (N + 1 - 1) = N := by rw [IntKind.wrap_i64]; have := HN.out; omega
    have hwN2 : IntKind.i64.wrap N = N := by rw [IntKind.wrap_i64]; have := HN.out; omega
    have c1 : decide ((0 : Int) ≤ r) = true := decide_eq_true (by omega)
    have c2 : decide (r < 128) = false := decide_eq_false (by omega)
    have hv : Lib.validRune r = true := by unfold Lib.validRune; simp; omega
    have hK : ∀ a b : Nat, ∀ B : UInt8, 128 ≤ B.toNat → Lib.indexByte (ch.extract a b).data.toList B = -1 := by
      intro a b B hB
      refine index_none _ _ (fun x hx e => ?_)
      subst e
      rw [ByteArray.data_extract, Array.toList_extract] at hx
      have hx2 := List.mem_of_mem_drop (List.mem_of_mem_take hx)
      rw [List.mem_iff_getElem] at hx2
      obtain ⟨j, hj, rfl⟩ := hx2
      have := HA.out j hj
      have e : ch[j]'hj = ch.data.toList[j]'hj := rfl
      rw [e] at this
      omega
    have HK := Aside0.mk hK
    clear hK hn hs hb hN r0 r1 r2 he
    go_enter Tryd.func46, Tryd.ntmps46
    go_wp2_with (go_at_call 51; (refine (Go.Proofs.Tryd.utf8_ValidRune r _).mono ?_); rintro e w' ⟨rfl, hw⟩; rw [hv, hw])
    go_step3
    go_wp2_with fail
    go_loopg [9, 10] 1 (fun g v9 _ wx => v9 = .int .i64 N ∧ g = 1 ∧ wx = w)
    case atStart => exact ⟨rfl, rfl, rfl⟩
    case round =>
      obtain ⟨rfl, rfl, rfl⟩ := hrel
      rcases HN.out with rfl | rfl | rfl
      · have hx5 : ∀ h : 1 < ch.size, ((ch[1]'h).toNat : Int) = bt ch 1 := bt_at ch 1
        have hx6 : ∀ h : 1 < E.size, ((E[1]'h).toNat : Int) = bt E 1 := bt_at E 1
        have hlo : bt ch 1 < 128 := by rw [← bt_at ch 1 (by rw [H3.out]; decide)]; exact Int.ofNat_lt.mpr (HA.out 1 (by rw [H3.out]; decide))
        have hne2 : (bt ch 1 == bt E 1) = false := beq_eq_false_iff_ne.mpr (by have : (128 : Int) ≤ bt E 1 := Hb.out; omega)
        have hne3 : (bt ch 1 != bt E 1) = true := by simp [bne, hne2]
        have zE2 : (E.size : Int) = 2 := by omega
        have hB : 128 ≤ (bt E 1).toNat.toUInt8.toNat := by
          have h1 : (128 : Int) ≤ bt E 1 := Hb.out
          have h2 := (bt_range E 1).2
          have h3 : (bt E 1).toNat.toUInt8.toNat = (bt E 1).toNat := by rw [Nat.toUInt8, UInt8.toNat_ofNat']; omega
          rw [h3]; omega
        have CI := Aside0.mk (fun (a b : Nat) (W5 : World) => (show Calls Tryd.prog 37 #[.string (ch.extract a b), .int .u8 (bt E 1)] W5 fun e w' => e = .returned (.int .i64 (-1)) ∧ w' = W5 by have k := Go.Proofs.Tryd.strings_IndexByte (ch.extract a b) (bt E 1) W5; rw [HK.out a b _ hB] at k; exact k))
        have w2 : IntKind.i64.wrap 2 = 2 := by rw [IntKind.wrap_i64] <;> omega
        clear hlo hB
        go_wp2_with fail
        go_step3
        go_wp2_with fail
        go_quiet (fail)
        go_wp2_with fail
        go_quiet ((go_at_call 37; exact (CI.out _ _ _).mono (fun e w'' hw => ⟨hw.1, _, hw.2⟩)))
        go_wp2_with fail
        try rw [Exit.noGoto_ret]
        try rw [Exit.noGoto_ret]
        simp only [inBlock_ret, then_ret, Exit.noGoto_ret]
        go_ret
        exact ⟨rfl, by repeat (first | exact Below.refl _ _ | apply pw_below_drewN | apply below_drew)⟩
      · have hx5 : ∀ h : 2 < ch.size, ((ch[2]'h).toNat : Int) = bt ch 2 := bt_at ch 2
        have hx6 : ∀ h : 2 < E.size, ((E[2]'h).toNat : Int) = bt E 2 := bt_at E 2
        have hlo : bt ch 2 < 128 := by rw [← bt_at ch 2 (by rw [H3.out]; decide)]; exact Int.ofNat_lt.mpr (HA.out 2 (by rw [H3.out]; decide))
        have hne2 : (bt ch 2 == bt E 2) = false := beq_eq_false_iff_ne.mpr (by have : (128 : Int) ≤ bt E 2 := Hb.out; omega)
        have hne3 : (bt ch 2 != bt E 2) = true := by simp [bne, hne2]
        have zE2 : (E.size : Int) = 3 := by omega
        have hB : 128 ≤ (bt E 2).toNat.toUInt8.toNat := by
          have h1 : (128 : Int) ≤ bt E 2 := Hb.out
          have h2 := (bt_range E 2).2
          have h3 : (bt E 2).toNat.toUInt8.toNat = (bt E 2).toNat := by rw [Nat.toUInt8, UInt8.toNat_ofNat']; omega
          rw [h3]; omega
        have CI := Aside0.mk (fun (a b : Nat) (W5 : World) => (show Calls Tryd.prog 37 #[.string (ch.extract a b), .int .u8 (bt E 2)] W5 fun e w' => e = .returned (.int .i64 (-1)) ∧ w' = W5 by have k := Go.Proofs.Tryd.strings_IndexByte (ch.extract a b) (bt E 2) W5; rw [HK.out a b _ hB] at k; exact k))
        have w2 : IntKind.i64.wrap 3 = 3 := by rw [IntKind.wrap_i64] <;> omega
        clear hlo hB
        go_wp2_with fail
        go_step3
        go_wp2_with fail
        go_quiet (fail)
        go_wp2_with fail
        go_quiet ((go_at_call 37; exact (CI.out _ _ _).mono (fun e w'' hw => ⟨hw.1, _, hw.2⟩)))
        go_wp2_with fail
        try rw [Exit.noGoto_ret]
        try rw [Exit.noGoto_ret]
        simp only [inBlock_ret, then_ret, Exit.noGoto_ret]
        go_ret
        exact ⟨rfl, by repeat (first | exact Below.refl _ _ | apply pw_below_drewN | apply below_drew)⟩
      · have c3 : ((3 : Int) < 3) = False := by simp
        go_wp2_with fail
        go_ret
        exact ⟨rfl, Below.refl _ _⟩
end Go.Proofs.YtjenbegobpfclaaDoor.Man
