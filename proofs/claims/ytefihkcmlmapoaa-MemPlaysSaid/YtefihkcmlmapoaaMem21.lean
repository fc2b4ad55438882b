import Derived.Test.YtefihkcmlmapoaaMem20
namespace Go.Proofs.Ytefihkcmlmapoaa.Mem
open Go.RowKit Go.Proofs.YtefihkcmlmapoaaW.PrintWords Go.Proofs.YtefihkcmlmapoaaW.PrintLast Go.Proofs.YtefihkcmlmapoaaW.PrintMore Go.Proofs.Ytefihkcmlmapoaa.PMemHalves
set_option linter.unusedVariables false
set_option linter.unusedSimpArgs false
set_option maxHeartbeats 2000000 in
theorem one_long {W : World} {base g : Nat} {A : Option Addr} {c g' : Nat} {A' : Option Addr} {c' n : Nat} {xs : List Int} {most : Int} (h : Two W base g A c g' A' c' n xs most) (hn : n % 256 = 0) (hm1 : (n : Int) / 256 ≤ most) (hbase : base ≤ W.heap.size)
    (what N at_ v : Int) (B : Option Addr) (nb cb : Nat) (wh0 : -9223372036854775808 ≤ what) (wh1 : what < 9223372036854775808) (hnb : 5000 < nb) (hp : pk what = 2) :
    Calls Try.prog 18 #[.pointer (some ⟨g, 0, none⟩), .pointer (some ⟨g', 0, none⟩), .agg #[.int .i64 what, .int .i64 N, .int .u64 at_, .int .u64 v, .slice B nb cb]] W (Alike W base g g' most) := by
  have hpc := fun w => pick_calls what wh0 wh1 w
  rw [hp] at hpc
  have HP := Aside0.mk hpc
  have H := Aside0.mk h
  have HN := Aside0.mk hn
  clear hpc h hn hp
  go_enter Try.func18, Try.ntmps18
  go_wp2_with (first | (go_at_call 24; (refine (HP.out _).mono ?_); rintro e w' ⟨rfl, rfl⟩))
  go_ret
  exact ⟨rfl, A, c, A', c', n, xs, H.out.alloc _, HN.out, hm1, (Below.refl _ _).alloc hbase _⟩
/-- What a growth comes to, in the memory and in its model. -/
def grew (n : Nat) (most k : Int) : Prop := k ≤ most - (n : Int) / 256
instance (n : Nat) (most k : Int) : Decidable (grew n most k) := by unfold grew; infer_instance
set_option maxHeartbeats 4000000 in
theorem one_grow {W : World} {base g : Nat} {A : Option Addr} {c g' : Nat} {A' : Option Addr} {c' n : Nat} {xs : List Int} {most : Int} (h : Two W base g A c g' A' c' n xs most) (hn : n % 256 = 0) (hm1 : (n : Int) / 256 ≤ most) (hm2 : most ≤ 16) (hbase : base ≤ W.heap.size)
    (what N at_ v : Int) (B : Option Addr) (nb cb : Nat) (wh0 : -9223372036854775808 ≤ what) (wh1 : what < 9223372036854775808) (v0 : 0 ≤ v) (hp : pk what = 3) :
    Calls Try.prog 18 #[.pointer (some ⟨g, 0, none⟩), .pointer (some ⟨g', 0, none⟩), .agg #[.int .i64 what, .int .i64 N, .int .u64 at_, .int .u64 v, .slice B nb cb]] W (Alike W base g g' most) := by
  have hlen : n ≤ 4096 := by omega
  have hpc := fun w => pick_calls what wh0 wh1 w
  rw [hp] at hpc
  have HP := Aside0.mk hpc
  have hT := (h.alloc (.cells #[.int .i64 what, .int .i64 N, .int .u64 at_, .int .u64 v, .slice B nb cb] 49)).drew
  have hrow : Row (W.alloc (.cells #[.int .i64 what, .int .i64 N, .int .u64 at_, .int .u64 v, .slice B nb cb] 49)).drew W.heap.size 49 #[.int .i64 what, .int .i64 N, .int .u64 at_, .int .u64 v, .slice B nb cb] := Row.made W 49 _ rfl
  have hB1 : Below base W (W.alloc (.cells #[.int .i64 what, .int .i64 N, .int .u64 at_, .int .u64 v, .slice B nb cb] 49)).drew := ((Below.refl _ _).alloc hbase _).drew
  have H := Aside0.mk hT
  have HN := Aside0.mk hn
  have HR := Aside0.mk hrow
  have HB := Aside0.mk hB1
  have hg1 : some g ≠ some W.heap.size := fun e => by have := h.m.row.lt; simp at e; omega
  have HG := Aside0.mk hg1
  have hg2 : W.heap.size ≠ g' := fun e => by have := h.x.row.lt; omega
  have hg3 : blk A' ≠ some W.heap.size := fun e => by have := (blk_ge h.x e).2; omega
  have HG2 := Aside0.mk hg2
  have HG3 := Aside0.mk hg3
  have hbs : base ≤ (W.alloc (.cells #[.int .i64 what, .int .i64 N, .int .u64 at_, .int .u64 v, .slice B nb cb] 49)).drew.heap.size := by simp; omega
  have HBS := Aside0.mk hbs
  by_cases hk : v ≤ most - (n : Int) / 256
  · obtain ⟨k, rfl⟩ := Int.eq_ofNat_of_zero_le v0
    have s1 := grow_ok (H.out.m) hbs hlen k hm1 hm2 hk
    have s2 : ∀ W2 : World, Mm W2 base 42 g' A' n c' xs most → base ≤ W2.heap.size → Calls Try.prog 28 #[.pointer (some ⟨g', 0, none⟩), .int .u64 k] W2 fun e w' => ∃ A2 c2, e = .returned (.int .u64 ((n : Int) / 256)) ∧ Mm w' base 42 g' A2 (n + k * 256) c2 (xs ++ List.replicate (k * 256) 0) most ∧
      Only W2 w' (fun i => i = g' ∨ blk A' = some i) ∧ ∀ j, blk A2 = some j → blk A' = some j ∨ W2.heap.size ≤ j := fun W2 h2 h3 => rgrow_ok h2 h3 hlen k (by omega) (by omega) hm2
    have S1 := Aside0.mk s1
    have S2 := Aside0.mk s2
    have hn2 : (n + k * 256) % 256 = 0 := by omega
    have hm3 : ((n + k * 256 : Nat) : Int) / 256 ≤ most := by omega
    have HN2 := Aside0.mk hn2
    have HM3 := Aside0.mk hm3
    clear hpc h hn hp hT hrow hB1 hg1 hbs s1 s2 hk hn2 hm3 HN hg2 hg3
    go_enter Try.func18, Try.ntmps18
    go_wp2_with (first | (go_at_call 24; (refine (HP.out _).mono ?_); rintro e w' ⟨rfl, rfl⟩))
    go_region_held3 (fun w' => w'.cell? ⟨W.heap.size, 3, none⟩ = some (.int .u64 k))
      (first | (simp; done) | assumption)
      (first
        | (go_at_call 17; (with_reducible refine S1.out.mono ?_); rintro e wA ⟨A2, c2, rfl, hmA, hgA, hfA⟩; have hxA := H.out.x.kept hgA (by have := H.out.m.row.differ H.out.x.row (by decide); simpa using this) (.inr H.out.s2); have hrA := HR.out.grown hgA HG.out; have qa1 := hrA.cell 3; simp only [List.getElem?_toArray, List.getElem?_cons_zero, List.getElem?_cons_succ] at qa1; have zA := Nat.le_trans HBS.out hgA.size)
        | (go_at_call 28; (with_reducible refine (S2.out _ hxA zA).mono ?_); rintro e wB ⟨A3, c3, rfl, hxB, hOB, hfB⟩; have hmB := hmA.only hOB (by rintro (e | e); exact H.out.m.row.differ H.out.x.row (by decide) e; exact H.out.s2 e) (fun i hi => by rintro (e | e); subst e; exact (hmA.far hxA.row (by decide)) hi; exact absurd (hfA i hi) (by have := (blk_ge H.out.x e).2; omega)); have hrB : Row wB W.heap.size 49 _ := (hOB.block W.heap.size hrA.lt (by rintro (e | e); exact HG2.out e; exact HG3.out e)).trans hrA; have qb1 := hrB.cell 3; simp only [List.getElem?_toArray, List.getElem?_cons_zero, List.getElem?_cons_succ] at qb1))
    go_wp2
    go_ret
    refine ⟨rfl, A2, c2, A3, c3, n + k * 256, xs ++ List.replicate (k * 256) 0, ⟨hmB, hxB, fun i hi hj => ?_⟩, HN2.out, HM3.out, Only.below (HB.out.grown hgA HBS.out (fun i hi => by have := H.out.m.lo; simp at hi; omega)) hOB zA (fun i hi => ?_)⟩
    · rcases hfB i hj with e | e
      · have e1 := (blk_ge H.out.x e).2
        have e2 := hfA i hi
        omega
      · have := (blk_ge hmA hi).2
        omega
    · rcases hi with e | e
      · have := H.out.x.lo
        omega
      · exact (blk_ge H.out.x e).1
  · have s1 := grow_no (H.out.m) hlen v hm1 hm2 (by omega)
    have s2 : ∀ W2 : World, Mm W2 base 42 g' A' n c' xs most → Calls Try.prog 28 #[.pointer (some ⟨g', 0, none⟩), .int .u64 v] W2 fun e w' => e = .returned (.int .u64 4294967295) ∧ Drawn0 W2 w' := fun W2 h2 => rgrow_no h2 hlen v v0 (by omega) hm2
    have S1 := Aside0.mk s1
    have S2 := Aside0.mk s2
    have HT0 := Aside0.mk (h.alloc (.cells #[.int .i64 what, .int .i64 N, .int .u64 at_, .int .u64 v, .slice B nb cb] 49))
    clear hpc h hn hp hT hrow hB1 hg1 hbs s1 s2 hk hg2 hg3
    go_enter Try.func18, Try.ntmps18
    go_wp2_with (first | (go_at_call 24; (refine (HP.out _).mono ?_); rintro e w' ⟨rfl, rfl⟩))
    go_region_held3 (fun w' => w'.cell? ⟨W.heap.size, 3, none⟩ = some (.int .u64 v))
      (first | (simp; done) | assumption)
      (first
        | (go_at_call 17; (with_reducible refine S1.out.mono ?_); rintro e wA ⟨rfl, ⟨na, rfl⟩⟩; have hxA := H.out.x.drewN na)
        | (go_at_call 28; (with_reducible refine (S2.out _ (by first | exact HT0.out.x.drewN _ | exact H.out.x.drewN _)).mono ?_); rintro e wB ⟨rfl, ⟨nb2, rfl⟩⟩))
    go_wp2
    go_ret
    refine ⟨rfl, A, c, A', c', n, xs, HT0.out.drewN _, HN.out, hm1, pw_below_drewN ((Below.refl _ _).alloc hbase _) _⟩
theorem one_calls {W : World} {base g : Nat} {A : Option Addr} {c g' : Nat} {A' : Option Addr} {c' n : Nat} {xs : List Int} {most : Int} (h : Two W base g A c g' A' c' n xs most) (hn : n % 256 = 0) (hm1 : (n : Int) / 256 ≤ most) (hm2 : most ≤ 16) (hbase : base ≤ W.heap.size)
    (what N at_ v : Int) (B : Option Addr) (nb cb : Nat) (wh0 : -9223372036854775808 ≤ what) (wh1 : what < 9223372036854775808) (a0 : 0 ≤ at_) (a1 : at_ < 18446744073709551616) (v0 : 0 ≤ v) (v1 : v < 18446744073709551616) (zs : List Int) (hz : zs.length = nb) (hzr : ∀ x ∈ zs, 0 ≤ x ∧ x < 256) (hsrc : SrcOld W base B zs) :
    Calls Try.prog 18 #[.pointer (some ⟨g, 0, none⟩), .pointer (some ⟨g', 0, none⟩), .agg #[.int .i64 what, .int .i64 N, .int .u64 at_, .int .u64 v, .slice B nb cb]] W (Alike W base g g' most) := by
  rcases pk_cases what with hp | hp | hp | hp
  · exact one_load h hn hm1 hm2 hbase what N at_ v B nb cb wh0 wh1 a0 a1 hp
  · exact one_store h hn hm1 hm2 hbase what N at_ v B nb cb wh0 wh1 a0 a1 v0 v1 hp
  · by_cases hnb : nb ≤ 5000
    · exact one_write h hn hm1 hm2 hbase what N at_ v B nb cb wh0 wh1 a0 a1 zs hz hzr hsrc hnb hp
    · exact one_long h hn hm1 hbase what N at_ v B nb cb wh0 wh1 (by omega) hp
  · exact one_grow h hn hm1 hm2 hbase what N at_ v B nb cb wh0 wh1 v0 hp
end Go.Proofs.Ytefihkcmlmapoaa.Mem
