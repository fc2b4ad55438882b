import Derived.Test.YtefihkcmlmapoaaMem18
namespace Go.Proofs.Ytefihkcmlmapoaa.Mem
open Go.RowKit Go.Proofs.YtefihkcmlmapoaaW.PrintWords Go.Proofs.YtefihkcmlmapoaaW.PrintLast Go.Proofs.YtefihkcmlmapoaaW.PrintMore Go.Proofs.Ytefihkcmlmapoaa.PMemHalves
set_option linter.unusedVariables false
set_option linter.unusedSimpArgs false
theorem Mm.drew {w : World} {base : Nat} {ty : TypeId} {g : Nat} {A : Option Addr} {n c : Nat} {xs : List Int} {most : Int} (h : Mm w base ty g A n c xs most) : Mm w.drew base ty g A n c xs most := ⟨h.len, h.lo, h.row, h.own, h.rng⟩
def pk (c : Int) : Int := (if c < 0 then -(c + 1) else c) % 4
theorem pk_cases (c : Int) : pk c = 0 ∨ pk c = 1 ∨ pk c = 2 ∨ pk c = 3 := by unfold pk; omega
theorem pick_calls (c : Int) (c0 : -9223372036854775808 ≤ c) (c1 : c < 9223372036854775808) (w : World) : Calls Try.prog 24 #[.int .i64 c, .int .i64 4] w fun e w' => e = .returned (.int .i64 (pk c)) ∧ w = w' := by
  by_cases h : c < 0
  · have e1 : pk c = -((c + 1).tmod 4) := by
      unfold pk
      rw [if_pos h, ← Int.neg_tmod, Int.tmod_eq_emod_of_nonneg (by omega)]
    have d : decide (c < 0) = true := decide_eq_true h
    have h2 : 0 ≤ -(c + 1) := by omega
    rw [e1]
    go_enter Try.func24, Try.ntmps24
    go_wp2
    go_ret
    exact ⟨rfl, rfl⟩
  · have e1 : pk c = c % 4 := by unfold pk; rw [if_neg h]
    have d : decide (c < 0) = false := decide_eq_false h
    have h2 : 0 ≤ c := by omega
    rw [e1]
    go_enter Try.func24, Try.ntmps24
    go_wp2
    go_ret
    exact ⟨rfl, rfl⟩
/-- A memory and its model, side by side. -/
structure Two (W : World) (base g : Nat) (A : Option Addr) (c g' : Nat) (A' : Option Addr) (c' n : Nat) (xs : List Int) (most : Int) : Prop where
  m : Mm W base 55 g A n c xs most
  x : Mm W base 42 g' A' n c' xs most
  sep : ∀ i, blk A = some i → blk A' ≠ some i
theorem Mm.far {w : World} {base : Nat} {ty ty' : TypeId} {g g' : Nat} {A : Option Addr} {n c : Nat} {xs : List Int} {most : Int} {cs : Array Value} (h : Mm w base ty g A n c xs most) (hr : Row w g' ty' cs) (ht : ty' ≠ 5) : blk A ≠ some g' := by
  rcases h.own.2 with ⟨hv, h0⟩ | ⟨b, cap, cur, hv, hb, hh, _⟩
  · simp only [Value.slice.injEq] at hv; rw [hv.1]; simp [blk]
  · simp only [Value.slice.injEq] at hv; rw [hv.1]; simp only [blk, Option.map_some, ne_eq, Option.some.injEq]
    exact fun e => hr.differ hh ht e.symm
theorem Two.alloc {W : World} {base g : Nat} {A : Option Addr} {c g' : Nat} {A' : Option Addr} {c' n : Nat} {xs : List Int} {most : Int} (h : Two W base g A c g' A' c' n xs most) (o : Obj) : Two (W.alloc o) base g A c g' A' c' n xs most := ⟨h.m.alloc o, h.x.alloc o, h.sep⟩
theorem Two.drew {W : World} {base g : Nat} {A : Option Addr} {c g' : Nat} {A' : Option Addr} {c' n : Nat} {xs : List Int} {most : Int} (h : Two W base g A c g' A' c' n xs most) : Two W.drew base g A c g' A' c' n xs most := ⟨h.m.drew, h.x.drew, h.sep⟩
theorem Two.drewN {W : World} {base g : Nat} {A : Option Addr} {c g' : Nat} {A' : Option Addr} {c' n : Nat} {xs : List Int} {most : Int} (h : Two W base g A c g' A' c' n xs most) (k : Nat) : Two (W.drewN k) base g A c g' A' c' n xs most := ⟨h.m.drewN k, h.x.drewN k, h.sep⟩
theorem Two.s1 {W : World} {base g : Nat} {A : Option Addr} {c g' : Nat} {A' : Option Addr} {c' n : Nat} {xs : List Int} {most : Int} (h : Two W base g A c g' A' c' n xs most) : blk A ≠ some g' := h.m.far h.x.row (by decide)
theorem Two.s2 {W : World} {base g : Nat} {A : Option Addr} {c g' : Nat} {A' : Option Addr} {c' n : Nat} {xs : List Int} {most : Int} (h : Two W base g A c g' A' c' n xs most) : blk A' ≠ some g := h.x.far h.m.row (by decide)
theorem Two.s3 {W : World} {base g : Nat} {A : Option Addr} {c g' : Nat} {A' : Option Addr} {c' n : Nat} {xs : List Int} {most : Int} (h : Two W base g A c g' A' c' n xs most) : blk A' = none ∨ blk A' ≠ blk A := by
  cases hA : blk A' with
  | none => exact .inl rfl
  | some i => exact .inr (fun e => h.sep i e.symm hA)
theorem Two.s4 {W : World} {base g : Nat} {A : Option Addr} {c g' : Nat} {A' : Option Addr} {c' n : Nat} {xs : List Int} {most : Int} (h : Two W base g A c g' A' c' n xs most) : blk A = none ∨ blk A ≠ blk A' := by
  cases hA : blk A with
  | none => exact .inl rfl
  | some i => exact .inr (fun e => h.sep i hA e.symm)
theorem blk_ge {w : World} {base : Nat} {ty : TypeId} {g : Nat} {A : Option Addr} {n c : Nat} {xs : List Int} {most : Int} (h : Mm w base ty g A n c xs most) {i : Nat} (hi : blk A = some i) : base ≤ i ∧ i < w.heap.size := h.own.lt i (by rw [ownBlock_slice]; exact hi)
/-- What a deed comes to: the answer is true; memory and model are alike as before. -/
def Alike (W : World) (base g g' : Nat) (most : Int) (e : Ending) (W' : World) : Prop := e = .returned (.bool true) ∧ ∃ A c A' c' n xs, Two W' base g A c g' A' c' n xs most ∧ n % 256 = 0 ∧ (n : Int) / 256 ≤ most ∧ Below base W W'
set_option maxHeartbeats 2000000 in
theorem one_load {W : World} {base g : Nat} {A : Option Addr} {c g' : Nat} {A' : Option Addr} {c' n : Nat} {xs : List Int} {most : Int} (h : Two W base g A c g' A' c' n xs most) (hn : n % 256 = 0) (hm1 : (n : Int) / 256 ≤ most) (hm2 : most ≤ 16) (hbase : base ≤ W.heap.size)
    (what N at_ v : Int) (B : Option Addr) (nb cb : Nat) (wh0 : -9223372036854775808 ≤ what) (wh1 : what < 9223372036854775808) (a0 : 0 ≤ at_) (a1 : at_ < 18446744073709551616) (hp : pk what = 0) :
    Calls Try.prog 18 #[.pointer (some ⟨g, 0, none⟩), .pointer (some ⟨g', 0, none⟩), .agg #[.int .i64 what, .int .i64 N, .int .u64 at_, .int .u64 v, .slice B nb cb]] W (Alike W base g g' most) := by
  have hlen : n ≤ 4096 := by omega
  have hpc := fun w => pick_calls what wh0 wh1 w
  rw [hp] at hpc
  have HP := Aside0.mk hpc
  have H := Aside0.mk h
  have HN := Aside0.mk hn
  clear hpc h hn hp
  have hlt : W.heap.size < W.heap.size + 1 := by omega
  go_enter Try.func18, Try.ntmps18
  go_wp2_with (first | (go_at_call 24; (refine (HP.out _).mono ?_); rintro e w' ⟨rfl, rfl⟩) | (go_at_call 12; (refine (load_all (H.out.alloc _).m hlen at_ N a0 a1).mono ?_); rintro e w' ⟨rfl, ⟨nd, rfl⟩⟩) | (go_at_call 25; (refine (rload_all ((H.out.alloc _).x.drewN _) hlen at_ N a0 a1).mono ?_); rintro e w' ⟨rfl, ⟨nd2, rfl⟩⟩))
  go_ret
  exact ⟨rfl, A, c, A', c', n, xs, (H.out.alloc _).drewN _, HN.out, hm1, pw_below_drewN ((Below.refl _ _).alloc hbase _) _⟩
set_option maxHeartbeats 4000000 in
theorem one_store {W : World} {base g : Nat} {A : Option Addr} {c g' : Nat} {A' : Option Addr} {c' n : Nat} {xs : List Int} {most : Int} (h : Two W base g A c g' A' c' n xs most) (hn : n % 256 = 0) (hm1 : (n : Int) / 256 ≤ most) (hm2 : most ≤ 16) (hbase : base ≤ W.heap.size)
    (what N at_ v : Int) (B : Option Addr) (nb cb : Nat) (wh0 : -9223372036854775808 ≤ what) (wh1 : what < 9223372036854775808) (a0 : 0 ≤ at_) (a1 : at_ < 18446744073709551616) (v0 : 0 ≤ v) (v1 : v < 18446744073709551616) (hp : pk what = 1) :
    Calls Try.prog 18 #[.pointer (some ⟨g, 0, none⟩), .pointer (some ⟨g', 0, none⟩), .agg #[.int .i64 what, .int .i64 N, .int .u64 at_, .int .u64 v, .slice B nb cb]] W (Alike W base g g' most) := by
  have hlen : n ≤ 4096 := by omega
  have hpc := fun w => pick_calls what wh0 wh1 w
  rw [hp] at hpc
  have HP := Aside0.mk hpc
  have hT := (h.alloc (.cells #[.int .i64 what, .int .i64 N, .int .u64 at_, .int .u64 v, .slice B nb cb] 49)).drew
  have hrow : Row (W.alloc (.cells #[.int .i64 what, .int .i64 N, .int .u64 at_, .int .u64 v, .slice B nb cb] 49)).drew W.heap.size 49 #[.int .i64 what, .int .i64 N, .int .u64 at_, .int .u64 v, .slice B nb cb] := Row.made W 49 _ rfl
  have hB1 : Below base W (W.alloc (.cells #[.int .i64 what, .int .i64 N, .int .u64 at_, .int .u64 v, .slice B nb cb] 49)).drew := ((Below.refl _ _).alloc hbase _).drew
  have H := Aside0.mk hT
  have HN := Aside0.mk hn
  have HR := Aside0.mk hrow
  have HB := Aside0.mk hB1
  have hA : blk A ≠ some W.heap.size := fun e => by have := (blk_ge h.m e).2; omega
  have hA' : blk A' ≠ some W.heap.size := fun e => by have := (blk_ge h.x e).2; omega
  have HA := Aside0.mk hA
  have HA' := Aside0.mk hA'
  obtain ⟨ys, hys⟩ : ∃ ys, ys = putI xs at_ N v := ⟨_, rfl⟩
  have HY := Aside0.mk hys
  clear hpc h hn hp hT hrow hB1 hA hA' hys
  have s1 : ∀ W2 : World, Mm W2 base 55 g A n c xs most → Calls Try.prog 11 #[.pointer (some ⟨g, 0, none⟩), .int .u64 at_, .int .i64 N, .int .u64 v] W2 fun e w' => e = .returned (.bool (inM n at_ N)) ∧ Mm w' base 55 g A n c ys most ∧ W2.grownBy w' (blk A) := fun W2 h2 => by rw [HY.out]; exact store_all h2 hlen at_ N v a0 a1
  have s2 : ∀ W2 : World, Mm W2 base 42 g' A' n c' xs most → Calls Try.prog 26 #[.pointer (some ⟨g', 0, none⟩), .int .u64 at_, .int .i64 N, .int .u64 v] W2 fun e w' => e = .returned (.bool (inM n at_ N)) ∧ Mm w' base 42 g' A' n c' ys most ∧ W2.grownBy w' (blk A') := fun W2 h2 => by rw [HY.out]; exact rstore_all h2 hlen at_ N v a0 a1 v0 v1
  have S1 := Aside0.mk s1
  have S2 := Aside0.mk s2
  clear s1 s2
  go_enter Try.func18, Try.ntmps18
  go_wp2_with (first | (go_at_call 24; (refine (HP.out _).mono ?_); rintro e w' ⟨rfl, rfl⟩))
  go_region_held3 (fun w' => w'.cell? ⟨W.heap.size, 1, none⟩ = some (.int .i64 N) ∧ w'.cell? ⟨W.heap.size, 2, none⟩ = some (.int .u64 at_) ∧ w'.cell? ⟨W.heap.size, 3, none⟩ = some (.int .u64 v))
    ((go_split_ands; refine ⟨?_, ?_, ?_⟩) <;> first | (simp; done) | assumption)
    (first
      | (go_at_call 11; (with_reducible refine (S1.out _ H.out.m).mono ?_); rintro e wA ⟨rfl, hmA, hgA⟩; have hxA := H.out.x.kept hgA H.out.s1 H.out.s3; have hrA := HR.out.grown hgA HA.out; have qa1 := hrA.cell 1; have qa2 := hrA.cell 2; have qa3 := hrA.cell 3; simp only [List.getElem?_toArray, List.getElem?_cons_zero, List.getElem?_cons_succ] at qa1 qa2 qa3)
      | (go_at_call 26; (with_reducible refine (S2.out _ hxA).mono ?_); rintro e wB ⟨rfl, hxB, hgB⟩; have hmB := hmA.kept hgB H.out.s2 H.out.s4; have hrB := hrA.grown hgB HA'.out; have qb1 := hrB.cell 1; have qb2 := hrB.cell 2; have qb3 := hrB.cell 3; simp only [List.getElem?_toArray, List.getElem?_cons_zero, List.getElem?_cons_succ] at qb1 qb2 qb3))
  go_wp2
  go_ret
  have z1 : base ≤ wA.heap.size := Nat.le_trans (by simp; omega) hgA.size
  exact ⟨rfl, A, c, A', c', n, ys, ⟨hmB, hxB, H.out.sep⟩, HN.out, hm1, ((HB.out.grown hgA (by simp; omega) (fun k hk => (blk_ge H.out.m hk).1)).grown hgB z1 (fun k hk => (blk_ge H.out.x hk).1))⟩
/-- What is read there; it was there before. -/
def SrcOld (W : World) (base : Nat) (B : Option Addr) (zs : List Int) : Prop := 0 < zs.length → ∃ ad : Addr, B = some ad ∧ ad.block < base ∧ ∀ j, j < zs.length → W.cell? (ad.add j) = some (.int .u8 (zs.getD j 0))
theorem SrcOld.below {W w : World} {base : Nat} {B : Option Addr} {zs : List Int} (h : SrcOld W base B zs) (hB : Below base W w) : SrcOld w base B zs := by
  intro hp
  obtain ⟨ad, e, hlt, hc⟩ := h hp
  exact ⟨ad, e, hlt, fun j hj => (hB.cell (p := ad.add j) (by rw [add_block]; exact hlt)).trans (hc j hj)⟩
theorem SrcOld.off {W : World} {base : Nat} {B : Option Addr} {zs : List Int} (h : SrcOld W base B zs) {row : Option Nat} (hr : ∀ k, row = some k → base ≤ k) : SrcOff W B zs row := by
  intro hp
  obtain ⟨ad, e, hlt, hc⟩ := h hp
  exact ⟨ad, e, fun e2 => by have := hr _ e2; omega, hc⟩
set_option maxHeartbeats 4000000 in
theorem one_write {W : World} {base g : Nat} {A : Option Addr} {c g' : Nat} {A' : Option Addr} {c' n : Nat} {xs : List Int} {most : Int} (h : Two W base g A c g' A' c' n xs most) (hn : n % 256 = 0) (hm1 : (n : Int) / 256 ≤ most) (hm2 : most ≤ 16) (hbase : base ≤ W.heap.size)
    (what N at_ v : Int) (B : Option Addr) (nb cb : Nat) (wh0 : -9223372036854775808 ≤ what) (wh1 : what < 9223372036854775808) (a0 : 0 ≤ at_) (a1 : at_ < 18446744073709551616) (zs : List Int) (hz : zs.length = nb) (hzr : ∀ x ∈ zs, 0 ≤ x ∧ x < 256) (hsrc : SrcOld W base B zs) (hnb : nb ≤ 5000) (hp : pk what = 2) :
    Calls Try.prog 18 #[.pointer (some ⟨g, 0, none⟩), .pointer (some ⟨g', 0, none⟩), .agg #[.int .i64 what, .int .i64 N, .int .u64 at_, .int .u64 v, .slice B nb cb]] W (Alike W base g g' most) := by
  have hlen : n ≤ 4096 := by omega
  have hpc := fun w => pick_calls what wh0 wh1 w
  rw [hp] at hpc
  have HP := Aside0.mk hpc
  have hT := (h.alloc (.cells #[.int .i64 what, .int .i64 N, .int .u64 at_, .int .u64 v, .slice B nb cb] 49)).drew
  have hrow : Row (W.alloc (.cells #[.int .i64 what, .int .i64 N, .int .u64 at_, .int .u64 v, .slice B nb cb] 49)).drew W.heap.size 49 #[.int .i64 what, .int .i64 N, .int .u64 at_, .int .u64 v, .slice B nb cb] := Row.made W 49 _ rfl
  have hB1 : Below base W (W.alloc (.cells #[.int .i64 what, .int .i64 N, .int .u64 at_, .int .u64 v, .slice B nb cb] 49)).drew := ((Below.refl _ _).alloc hbase _).drew
  have hs1 := hsrc.below hB1
  have H := Aside0.mk hT
  have HN := Aside0.mk hn
  have HR := Aside0.mk hrow
  have HB := Aside0.mk hB1
  have HS := Aside0.mk hs1
  have hA : blk A ≠ some W.heap.size := fun e => by have := (blk_ge h.m e).2; omega
  have hA' : blk A' ≠ some W.heap.size := fun e => by have := (blk_ge h.x e).2; omega
  have HA := Aside0.mk hA
  have HA' := Aside0.mk hA'
  obtain ⟨ys, hys⟩ : ∃ ys, ys = (if at_ + nb ≤ n then splice xs at_.toNat zs else xs) := ⟨_, rfl⟩
  have HY := Aside0.mk hys
  have s1 : ∀ W2 : World, Mm W2 base 55 g A n c xs most → SrcOld W2 base B zs → Calls Try.prog 19 #[.pointer (some ⟨g, 0, none⟩), .int .u64 at_, .slice B nb cb] W2 fun e w' => e = .returned (.bool (decide (at_ + nb ≤ n))) ∧ Mm w' base 55 g A n c ys most ∧ W2.grownBy w' (blk A) := fun W2 h2 h3 => by rw [HY.out]; exact write_all h2 hlen at_ a0 a1 B nb cb zs hz (by omega) hzr (h3.off (row := none) (by intro k hk; cases hk)).src
  have s2 : ∀ W2 : World, Mm W2 base 42 g' A' n c' xs most → SrcOld W2 base B zs → Calls Try.prog 27 #[.pointer (some ⟨g', 0, none⟩), .int .u64 at_, .slice B nb cb] W2 fun e w' => e = .returned (.bool (decide (at_ + nb ≤ n))) ∧ Mm w' base 42 g' A' n c' ys most ∧ W2.grownBy w' (blk A') := fun W2 h2 h3 => by rw [HY.out]; exact rwrite_all h2 hlen at_ a0 a1 B nb cb zs hz (by omega) hzr (h3.off (fun k hk => (blk_ge h2 hk).1))
  have S1 := Aside0.mk s1
  have S2 := Aside0.mk s2
  clear hpc h hn hp hT hrow hB1 hA hA' hys s1 s2 hsrc hs1 hz hzr
  obtain ⟨r, hr⟩ : ∃ r, r = decide (at_ + nb ≤ n) := ⟨_, rfl⟩
  rw [← hr] at S1 S2
  clear hr HY
  go_enter Try.func18, Try.ntmps18
  go_wp2_with (first | (go_at_call 24; (refine (HP.out _).mono ?_); rintro e w' ⟨rfl, rfl⟩))
  go_region_held3 (fun w' => w'.cell? ⟨W.heap.size, 2, none⟩ = some (.int .u64 at_) ∧ w'.cell? ⟨W.heap.size, 4, none⟩ = some (.slice B nb cb))
    ((go_split_ands; refine ⟨?_, ?_⟩) <;> first | (simp; done) | assumption)
    (first
      | (go_at_call 19; (with_reducible refine (S1.out _ H.out.m HS.out).mono ?_); rintro e wA ⟨rfl, hmA, hgA⟩; have hxA := H.out.x.kept hgA H.out.s1 H.out.s3; have hrA := HR.out.grown hgA HA.out; have hsA := HS.out.below ((Below.refl _ _).grown hgA (by simp; omega) (fun k hk => (blk_ge H.out.m hk).1)); have qa1 := hrA.cell 2; have qa2 := hrA.cell 4; simp only [List.getElem?_toArray, List.getElem?_cons_zero, List.getElem?_cons_succ] at qa1 qa2)
      | (go_at_call 27; (with_reducible refine (S2.out _ hxA hsA).mono ?_); rintro e wB ⟨rfl, hxB, hgB⟩; have hmB := hmA.kept hgB H.out.s2 H.out.s4; have hrB := hrA.grown hgB HA'.out; have qb1 := hrB.cell 2; have qb2 := hrB.cell 4; simp only [List.getElem?_toArray, List.getElem?_cons_zero, List.getElem?_cons_succ] at qb1 qb2))
  go_wp2
  go_ret
  have z1 : base ≤ wA.heap.size := Nat.le_trans (by simp; omega) hgA.size
  exact ⟨rfl, A, c, A', c', n, ys, ⟨hmB, hxB, H.out.sep⟩, HN.out, hm1, ((HB.out.grown hgA (by simp; omega) (fun k hk => (blk_ge H.out.m hk).1)).grown hgB z1 (fun k hk => (blk_ge H.out.x hk).1))⟩
end Go.Proofs.Ytefihkcmlmapoaa.Mem
