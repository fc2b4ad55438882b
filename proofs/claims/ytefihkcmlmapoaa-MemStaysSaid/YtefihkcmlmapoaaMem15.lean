import Derived.Test.YtefihkcmlmapoaaMem14
namespace Go.Proofs.Ytefihkcmlmapoaa.Mem
open Go.RowKit Go.Proofs.YtefihkcmlmapoaaW.PrintWords Go.Proofs.YtefihkcmlmapoaaW.PrintLast Go.Proofs.YtefihkcmlmapoaaW.PrintMore Go.Proofs.Ytefihkcmlmapoaa.PMemHalves
set_option linter.unusedVariables false
set_option linter.unusedSimpArgs false
/-- All blocks but those that S names are as they were. -/
structure Only (w w' : World) (S : Nat → Prop) : Prop where
  os : w'.os = w.os
  tape : w'.tape = w.tape
  output : w'.output = w.output
  size : w.heap.size ≤ w'.heap.size
  block : ∀ k, k < w.heap.size → ¬ S k → w'.heap[k]? = w.heap[k]?
theorem Only.refl (w : World) (S : Nat → Prop) : Only w w S := ⟨rfl, rfl, rfl, Nat.le_refl _, fun _ _ _ => rfl⟩
theorem Only.of_grown {w w' : World} {row : Option Nat} (h : w.grownBy w' row) : Only w w' (fun k => row = some k) := ⟨h.os, h.tape, h.output, h.size, fun k hk hne => h.block k hk (fun e => hne e.symm)⟩
theorem Only.drewN {w w' : World} {S : Nat → Prop} (h : Only w w' S) (n : Nat) : Only w (w'.drewN n) S := ⟨h.os, h.tape, h.output, h.size, h.block⟩
theorem Only.drew {w w' : World} {S : Nat → Prop} (h : Only w w' S) : Only w w'.drew S := ⟨h.os, h.tape, h.output, h.size, h.block⟩
theorem Only.grown {w w1 w2 : World} {S : Nat → Prop} (h : Only w w1 S) {row : Option Nat} (g : w1.grownBy w2 row) (hr : ∀ k, row = some k → S k ∨ w.heap.size ≤ k) : Only w w2 S :=
  ⟨g.os.trans h.os, g.tape.trans h.tape, g.output.trans h.output, Nat.le_trans h.size g.size, fun k hk hne => (g.block k (Nat.lt_of_lt_of_le hk h.size) (fun e => (hr k e.symm).elim hne (fun hz => by omega))).trans (h.block k hk hne)⟩
theorem Only.alloc {w w1 : World} {S : Nat → Prop} (h : Only w w1 S) (o : Obj) : Only w (w1.alloc o) S := h.grown (World.grownBy_alloc w1 o none) (fun k hk => by cases hk)
theorem Only.set {w w1 : World} {S : Nat → Prop} (h : Only w w1 S) {g i : Nat} (hg : S g ∨ w.heap.size ≤ g) (u : Value) : Only w (w1.setCell ⟨g, i, none⟩ u) S :=
  h.grown (grown_set (World.grownBy.refl w1 (some g)) i u) (fun k hk => by injection hk with hk; subst hk; exact hg)
theorem Only.below {B : Nat} {a w w' : World} {S : Nat → Prop} (h : Below B a w) (k : Only w w' S) (hB : B ≤ w.heap.size) (hS : ∀ i, S i → B ≤ i) : Below B a w' :=
  h.trans ⟨k.os, k.tape, k.output, k.size, fun i hi => k.block i (Nat.lt_of_lt_of_le hi hB) (fun hs => by have := hS i hs; omega)⟩
theorem Mm.only {w w' : World} {base : Nat} {ty : TypeId} {g : Nat} {A : Option Addr} {n c : Nat} {xs : List Int} {most : Int} (h : Mm w base ty g A n c xs most) {S : Nat → Prop} (k : Only w w' S)
    (h1 : ¬ S g) (h2 : ∀ i, blk A = some i → ¬ S i) : Mm w' base ty g A n c xs most := by
  refine ⟨h.len, h.lo, (k.block g h.row.lt h1).trans h.row, ⟨h.own.1, ?_⟩, h.rng⟩
  rcases h.own.2 with hn | ⟨b, cap, cur, hv, hb, hh, rest⟩
  · exact .inl hn
  · refine .inr ⟨b, cap, cur, hv, hb, ?_, rest⟩
    simp only [Value.slice.injEq] at hv
    exact (k.block b (Array.getElem?_eq_some_iff.1 hh).1 (h2 b (by rw [hv.1]; rfl))).trans hh
theorem splice_step (xs ys : List Int) (a j : Nat) (h : a + ys.length ≤ xs.length) (hj : j < ys.length) : splice xs a (ys.take (j + 1)) = (splice xs a (ys.take j)).set (a + j) (ys.getD j 0) := by
  apply List.ext_getElem?
  intro i
  simp only [splice, List.getElem?_append, List.getElem?_take, List.getElem?_drop, List.getElem?_set, List.length_take, List.length_append, List.length_drop, List.getD]
  by_cases h1 : i < a
  · simp [h1, show i < min a xs.length by omega, show ¬ a + j = i by omega]
  · by_cases h2 : i < a + j
    · simp [show ¬ i < min a xs.length by omega, h1, show ¬ a + j = i by omega, show i - min a xs.length < min (j + 1) ys.length by omega, show i - min a xs.length < min j ys.length by omega, show i - min a xs.length < j by omega, show i - min a xs.length < j + 1 by omega]
    · by_cases h3 : i = a + j
      · subst h3
        have e : a + j - min a xs.length = j := by omega
        simp [show ¬ a + j < min a xs.length by omega, e, show j < min (j + 1) ys.length by omega, hj]
        omega
      · simp [show ¬ i < min a xs.length by omega, show ¬ a + j = i by omega, show ¬ i - min a xs.length < min (j + 1) ys.length by omega, show ¬ i - min a xs.length < min j ys.length by omega]
        congr 1
        omega
set_option maxHeartbeats 2000000 in
theorem rwrite_no {w : World} {base g n c : Nat} {A : Option Addr} {most : Int} {xs : List Int} (h : Mm w base 42 g A n c xs most) (hlen : n ≤ 4096) (at_ : Int) (a0 : 0 ≤ at_) (a1 : at_ < 18446744073709551616)
    (B : Option Addr) (nb cb : Nat) (hnb : nb ≤ 65536) (hin : ¬ at_ + nb ≤ n) :
    Calls Try.prog 27 #[.pointer (some ⟨g, 0, none⟩), .int .u64 at_, .slice B nb cb] w fun e w' => e = .returned (.bool false) ∧ Drawn0 w w' := by
  have hth := rthere h.row hlen at_ nb a0 a1 (by omega)
  rw [decide_eq_false hin] at hth
  clear h hin
  go_enter Try.func27, Try.ntmps27
  go_wp2_with (first | (go_at_call 29; (refine hth.mono ?_); rintro e w' ⟨rfl, ⟨nd2, rfl⟩⟩))
  go_ret
  exact ⟨rfl, ⟨_, rfl⟩⟩
/-- What is read there; it lies in another block than the row. -/
def SrcOff (w : World) (B : Option Addr) (ys : List Int) (row : Option Nat) : Prop := 0 < ys.length → ∃ ad : Addr, B = some ad ∧ row ≠ some ad.block ∧ ∀ j, j < ys.length → w.cell? (ad.add j) = some (.int .u8 (ys.getD j 0))
theorem SrcOff.src {w : World} {B : Option Addr} {ys : List Int} {row : Option Nat} (h : SrcOff w B ys row) : Src w B ys := by
  intro hp
  obtain ⟨ad, hB, _, hc⟩ := h hp
  refine ⟨ad, hB, fun j v hj => ?_⟩
  have hjl : j < ys.length := by have := (List.getElem?_eq_some_iff.1 hj).1; simpa using this
  rw [hc j hjl, ← hj]
  simp [List.getD, hjl]
theorem add_block (ad : Addr) (j : Nat) : (ad.add j).block = ad.block := by unfold Addr.add; split <;> rfl
theorem SrcOff.grown {w w' : World} {B : Option Addr} {ys : List Int} {row row' : Option Nat} (h : SrcOff w B ys row) (hg : w.grownBy w' row) (h' : ∀ ad : Addr, B = some ad → row' ≠ some ad.block) : SrcOff w' B ys row' := by
  intro hp
  obtain ⟨ad, hB, hne, hc⟩ := h hp
  refine ⟨ad, hB, h' ad hB, fun j hj => hg.cell (hc j hj) ?_⟩
  rw [add_block]; exact fun e => hne e.symm
set_option maxHeartbeats 2000000 in
theorem rwrite_in {w : World} {base g b n c : Nat} {most : Int} {xs : List Int} (h : Mm w base 42 g (some ⟨b, 0, none⟩) n c xs most) (hlen : n ≤ 4096) (a : Nat)
    (ad : Addr) (nb cb : Nat) (ys : List Int) (hy : ys.length = nb) (hyr : ∀ x ∈ ys, 0 ≤ x ∧ x < 256) (hne : b ≠ ad.block) (hsrc : ∀ j, j < nb → w.cell? (ad.add j) = some (.int .u8 (ys.getD j 0))) (hin : a + nb ≤ n) :
    Calls Try.prog 27 #[.pointer (some ⟨g, 0, none⟩), .int .u64 a, .slice (some ad) nb cb] w fun e w' => e = .returned (.bool true) ∧ Mm w' base 42 g (some ⟨b, 0, none⟩) n c (splice xs a ys) most ∧ w.grownBy w' (some b) := by
  have hth := rthere h.row hlen a nb (by omega) (by omega) (by omega)
  rw [decide_eq_true (by omega)] at hth
  have ea : IntKind.i64.wrap (a : Int) = (a : Int) := by rw [IntKind.wrap_i64]; omega
  have H := Aside0.mk h
  have HS := Aside0.mk hsrc
  have HY := Aside0.mk hy
  have HN := Aside0.mk hne
  clear h hsrc hy hne
  go_enter Try.func27, Try.ntmps27
  go_wp2_with (first | (go_at_call 29; (refine hth.mono ?_); rintro e w' ⟨rfl, ⟨nd2, rfl⟩⟩))
  go_loopg [8] nb (fun kq v8 w' => ∃ j : Nat, v8 = .int .i64 j ∧ j + kq = nb ∧ Mm w' base 42 g (some ⟨b, 0, none⟩) n c (splice xs a (ys.take j)) most ∧ w.grownBy w' (some b))
  case atStart =>
    have e : splice xs a (List.take 0 ys) = xs := by simp [splice]
    exact ⟨0, rfl, by omega, by rw [e]; exact H.out.drewN _, grown_drewN (World.grownBy.refl _ _) _⟩
  case round =>
    obtain ⟨j, rfl, hj, hr, hB⟩ := hrel
    cases gk with
    | zero =>
      obtain rfl : j = nb := by omega
      go_wp2
      go_ret
      exact ⟨rfl, by rw [← HY.out, List.take_length] at hr; exact hr, hB⟩
    | succ k2 =>
      have hlt : ((j : Int) < (nb : Int)) = True := eq_true (by omega)
      have hi : a + j < n := by omega
      have c0 : wr.cell? ⟨g, 0, none⟩ = some (.slice (some ⟨b, 0, none⟩) n c) := hr.row.cell 0
      have hc := hr.cell (a + j) (by omega)
      have hf := hr.frozen (a + j)
      have hs : wr.cell? (ad.add j) = some (.int .u8 (ys.getD j 0)) := hB.cell (HS.out j (by omega)) (by rw [add_block]; exact fun e => HN.out (Option.some.inj e).symm)
      obtain ⟨y, hy⟩ : ∃ y, y = ys.getD j 0 := ⟨_, rfl⟩
      rw [← hy] at hs
      have hyy : 0 ≤ y ∧ y < 256 := by rw [hy]; exact getD_range hyr j
      have HYY := Aside0.mk hy
      have HR := Aside0.mk hr
      have HB := Aside0.mk hB
      clear hr hB hy
      go_wp2
      go_region
      go_wp2
      have hr3 : Mm (wr.setCell ⟨b, a + j, none⟩ (.int .u8 y)) base 42 g (some ⟨b, 0, none⟩) n c (splice xs a (ys.take (j + 1))) most := by
        have q := HR.out.set (by decide) (a + j) y hyy
        rw [splice_step xs ys a j (by rw [HY.out, H.out.len]; omega) (by rw [HY.out]; omega), ← HYY.out]; exact q
      go_roundg k2
      case measure => omega
      case rel => exact ⟨j + 1, by simp, by omega, hr3.drewN 1, grown_drew (grown_set HB.out _ _)⟩
set_option maxHeartbeats 2000000 in
theorem rwrite_zero {w : World} {base g n c : Nat} {A : Option Addr} {most : Int} {xs : List Int} (h : Mm w base 42 g A n c xs most) (hlen : n ≤ 4096) (a : Nat) (B : Option Addr) (cb : Nat) (hin : a ≤ n) :
    Calls Try.prog 27 #[.pointer (some ⟨g, 0, none⟩), .int .u64 a, .slice B 0 cb] w fun e w' => e = .returned (.bool true) ∧ Drawn0 w w' := by
  have hth := rthere h.row hlen a 0 (by omega) (by omega) (by omega)
  rw [decide_eq_true (by omega)] at hth
  clear h
  go_enter Try.func27, Try.ntmps27
  go_wp2_with (first | (go_at_call 29; (refine hth.mono ?_); rintro e w' ⟨rfl, ⟨nd2, rfl⟩⟩))
  refine wp_loop_rounds 1 ?_
  rw [rounds_succ]
  go_wp2
  go_ret
  exact ⟨rfl, ⟨_, rfl⟩⟩
theorem rwrite_all {w : World} {base g n c : Nat} {A : Option Addr} {most : Int} {xs : List Int} (h : Mm w base 42 g A n c xs most) (hlen : n ≤ 4096) (at_ : Int) (a0 : 0 ≤ at_) (a1 : at_ < 18446744073709551616)
    (B : Option Addr) (nb cb : Nat) (ys : List Int) (hy : ys.length = nb) (hnb : nb ≤ 65536) (hyr : ∀ x ∈ ys, 0 ≤ x ∧ x < 256) (hsrc : SrcOff w B ys (blk A)) :
    Calls Try.prog 27 #[.pointer (some ⟨g, 0, none⟩), .int .u64 at_, .slice B nb cb] w fun e w' => e = .returned (.bool (decide (at_ + nb ≤ n))) ∧ Mm w' base 42 g A n c (if at_ + nb ≤ n then splice xs at_.toNat ys else xs) most ∧ w.grownBy w' (blk A) := by
  by_cases hin : at_ + nb ≤ n
  · rw [decide_eq_true hin, if_pos hin]
    obtain ⟨a, rfl⟩ := Int.eq_ofNat_of_zero_le a0
    rw [Int.toNat_natCast]
    by_cases hpos : 0 < nb
    · obtain ⟨b, rfl, hb, hgb⟩ := h.ptr (by omega) (by decide)
      obtain ⟨ad, rfl, hne, hc⟩ := hsrc (by omega)
      exact rwrite_in h hlen a ad nb cb ys hy hyr (fun e => hne (by rw [← e]; rfl)) (by rw [← hy]; exact hc) (by omega)
    · obtain rfl : nb = 0 := by omega
      obtain rfl : ys = [] := List.eq_nil_of_length_eq_zero hy
      have hs : splice xs a ([] : List Int) = xs := by simp [splice]
      rw [hs]
      exact (rwrite_zero h hlen a B cb (by omega)).mono fun e w' ⟨he, hD⟩ => ⟨he, by obtain ⟨k, rfl⟩ := hD; exact h.drewN k, grown_of_drawn hD _⟩
  · rw [decide_eq_false hin, if_neg hin]
    exact (rwrite_no h hlen at_ a0 a1 B nb cb hnb hin).mono fun e w' ⟨he, hD⟩ => ⟨he, by obtain ⟨k, rfl⟩ := hD; exact h.drewN k, grown_of_drawn hD _⟩
end Go.Proofs.Ytefihkcmlmapoaa.Mem
