import Derived.Test.YtefihkcmlmapoaaMem10
import Derived.Deep.RegionHeld3
import Derived.Lib.AppendZeros
namespace Go.Proofs.Ytefihkcmlmapoaa.Mem
open Go.RowKit Go.Proofs.YtefihkcmlmapoaaW.PrintWords Go.Proofs.YtefihkcmlmapoaaW.PrintLast Go.Proofs.YtefihkcmlmapoaaW.PrintMore Go.Proofs.Ytefihkcmlmapoaa.PMemHalves
set_option linter.unusedVariables false
set_option linter.unusedSimpArgs false
theorem pages_calls {w : World} {g n c : Nat} {A : Option Addr} {most : Int} (h : Row w g 55 #[.slice A n c, .int .i64 most]) (hn : n ≤ 65536) :
    Calls Try.prog 14 #[.pointer (some ⟨g, 0, none⟩)] w fun e w' => e = .returned (.int .i64 ((n : Int) / 256)) ∧ Drawn0 w w' := by
  have c0 : w.cell? ⟨g, 0, none⟩ = some (.slice A n c) := h.cell 0
  go_enter Try.func14, Try.ntmps14
  go_wp2
  go_ret
  exact ⟨rfl, Drawn0.refl _⟩
theorem most_calls {w : World} {g n c : Nat} {A : Option Addr} {most : Int} (h : Row w g 55 #[.slice A n c, .int .i64 most]) :
    Calls Try.prog 15 #[.pointer (some ⟨g, 0, none⟩)] w fun e w' => e = .returned (.int .i64 most) ∧ Drawn0 w w' := by
  have c1 : w.cell? ⟨g, 1, none⟩ = some (.int .i64 most) := h.cell 1
  go_enter Try.func15, Try.ntmps15
  go_wp2
  go_ret
  exact ⟨rfl, Drawn0.refl _⟩
theorem bytes_calls {w : World} {base g n c : Nat} {A : Option Addr} {most : Int} {xs : List Int} (h : Mm w base 55 g A n c xs most) (hn : n ≤ 65536) :
    Calls Try.prog 16 #[.pointer (some ⟨g, 0, none⟩)] w fun e w' => ∃ A' c', e = .returned (.slice A' n c') ∧ Bs w' w.heap.size A' n c' xs ∧ Below w.heap.size w w' := by
  have c0 : w.cell? ⟨g, 0, none⟩ = some (.slice A n c) := h.row.cell 0
  have H := Aside0.mk h.bs
  clear h
  go_enter Try.func16, Try.ntmps16
  go_wp2_with (go_at_call 23; (refine (clone_any H.out hn).mono ?_); rintro e w1 ⟨A', c', rfl, hBs, hB⟩)
  go_ret
  exact ⟨A', c', rfl, hBs, hB⟩
theorem info55 : (Try.prog.info? 55).map (fun i => (i.zero, i.size, i.bytes)) = some (some (.agg #[.slice none 0 0, .int .i64 0]), 2, 32) := by kernel_rfl
set_option maxHeartbeats 1000000 in
theorem mclone_calls {w : World} {base g n c : Nat} {A : Option Addr} {most : Int} {xs : List Int} (h : Mm w base 55 g A n c xs most) (hn : n ≤ 65536) :
    Calls Try.prog 20 #[.pointer (some ⟨g, 0, none⟩)] w fun e w' => ∃ g' A' c', e = .returned (.pointer (some ⟨g', 0, none⟩)) ∧ Mm w' w.heap.size 55 g' A' n c' xs most ∧ Below w.heap.size w w' := by
  have c0 : w.cell? ⟨g, 0, none⟩ = some (.slice A n c) := h.row.cell 0
  have c1 : w.cell? ⟨g, 1, none⟩ = some (.int .i64 most) := h.row.cell 1
  have hgl := h.row.lt
  have H := Aside0.mk h
  have HR := Aside0.mk h.row
  have hcl : ∀ k : Nat, Calls Try.prog 23 #[.slice A n c] (w.drewN k) fun e w' => ∃ A' c', e = .returned (.slice A' n c') ∧ Bs w' w.heap.size A' n c' xs ∧ Below w.heap.size w w' :=
    fun k => (clone_any (H.out.bs.drewN k) hn).mono fun e w' ⟨A', c', he, hb, hB⟩ => ⟨A', c', he, hb, (pw_below_drewN (Below.refl _ _) k).trans hB⟩
  have HC := Aside0.mk hcl
  clear h hcl
  go_enter Try.func20, Try.ntmps20
  go_wp2_with fail
  go_region_held3 (fun w' => w'.cell? ⟨g, 0, none⟩ = some (.slice A n c) ∧ w'.cell? ⟨g, 1, none⟩ = some (.int .i64 most)) (first | go_keep | (have q0 := hB.cell (p := ⟨g, 0, none⟩) (by simpa using HR.out.lt); have q1 := hB.cell (p := ⟨g, 1, none⟩) (by simpa using HR.out.lt); simp_all; done))
    (first | (go_at_call 23; (refine (HC.out _).mono ?_); rintro e w1 ⟨A', c', rfl, hBs, hB⟩))
  go_wp2
  go_ret
  exact ⟨w1.heap.size, A', c', rfl, ⟨hBs.len, hB.size, Row.made _ _ _ rfl, (hBs.alloc _).own, H.out.rng⟩, below_alloc hB _⟩
theorem zeros_bytes (m : Nat) : (Builtin.zeroCells (Value.int .u8 0).cells m).toList = (List.replicate m (0 : Int)).map (Value.int .u8) := by
  have h : ∀ (z : Value), z.cells = #[z] → (Builtin.zeroCells z.cells m).toList = List.replicate m z := by
    intro z hz
    rw [hz]
    simp [Builtin.zeroCells, List.map_const', Nat.mod_one]
  rw [h _ rfl, List.map_replicate]
theorem add_zeros {w : World} {base n c : Nat} {A : Option Addr} {xs : List Int} (h : Bs w base A n c xs) (m : Nat) (hb : base ≤ w.heap.size) (hn : n + m ≤ 65536) (ty : TypeId) : ∃ A' c' w', (Builtin.append_ #[40, 3] ty #[.slice A n c, .int .i64 (m : Int)]).run Try.prog w = .ok (.slice A' (n + m) c') w' ∧
    Bs w' base A' (n + m) c' (xs ++ List.replicate m 0) ∧ w.grownBy w' (blk A) := by
  obtain ⟨i0, hi, hz0, hz1, hz2⟩ := info_parts info5
  obtain ⟨v', w', hr, ho, hg, _⟩ := run_append_zeros (P := Try.prog) w base 40 3 ty 5 i0 (.int .u8 0) 1 1 Try.underlying40 Try.underlying3 hi hz0 hz1 hz2 rfl (by decide) (by decide) (.slice A n c) n _ h.own .i64 m (by rw [zeros_bytes]; exact one_bytes _) (by omega) hb
  rw [zeros_bytes, ← List.map_append] at ho
  obtain ⟨A', c', rfl, hB⟩ := Bs.of (by simp [h.len]) ho
  rw [ownBlock_slice] at hg
  exact ⟨A', c', w', hr, hB, hg⟩
set_option maxHeartbeats 1000000 in
theorem grow_no {w : World} {base g n c : Nat} {A : Option Addr} {most : Int} {xs : List Int} (h : Mm w base 55 g A n c xs most) (hn : n ≤ 4096) (k : Int) (hm1 : (n : Int) / 256 ≤ most) (hm2 : most ≤ 16) (hk : most - (n : Int) / 256 < k) :
    Calls Try.prog 17 #[.pointer (some ⟨g, 0, none⟩), .int .u64 k] w fun e w' => e = .returned (.int .u64 4294967295) ∧ Drawn0 w w' := by
  have hp := pages_calls h.row (by omega)
  have c0 : w.cell? ⟨g, 0, none⟩ = some (.slice A n c) := h.row.cell 0
  have c1 : w.cell? ⟨g, 1, none⟩ = some (.int .i64 most) := h.row.cell 1
  have ew : IntKind.u64.wrap (most - (n : Int) / 256) = most - (n : Int) / 256 := by rw [IntKind.wrap_u64]; omega
  clear h
  go_enter Try.func17, Try.ntmps17
  go_wp2_with (go_at_call 14; refine hp.mono ?_; rintro e w' ⟨rfl, ⟨nd, rfl⟩⟩)
  go_ret
  exact ⟨rfl, ⟨_, rfl⟩⟩
set_option maxHeartbeats 1000000 in
theorem grow_ok {w : World} {base g n c : Nat} {A : Option Addr} {most : Int} {xs : List Int} (h : Mm w base 55 g A n c xs most) (hbase : base ≤ w.heap.size) (hn : n ≤ 4096) (k : Nat) (hm1 : (n : Int) / 256 ≤ most) (hm2 : most ≤ 16) (hk : (k : Int) ≤ most - (n : Int) / 256) :
    Calls Try.prog 17 #[.pointer (some ⟨g, 0, none⟩), .int .u64 k] w fun e w' => ∃ A' c', e = .returned (.int .u64 ((n : Int) / 256)) ∧ Mm w' base 55 g A' (n + k * 256) c' (xs ++ List.replicate (k * 256) 0) most ∧
      w.grownBy w' (some g) ∧ ∀ j, blk A' = some j → w.heap.size ≤ j := by
  have hp := pages_calls h.row (by omega)
  have c0 : w.cell? ⟨g, 0, none⟩ = some (.slice A n c) := h.row.cell 0
  have c1 : w.cell? ⟨g, 1, none⟩ = some (.int .i64 most) := h.row.cell 1
  have ew : IntKind.u64.wrap (most - (n : Int) / 256) = most - (n : Int) / 256 := by rw [IntKind.wrap_u64]; omega
  have ek : IntKind.i64.wrap (k : Int) = (k : Int) := by rw [IntKind.wrap_i64]; omega
  have H := Aside0.mk h
  have hgl := h.row.lt
  have hk16 : k ≤ 16 := by omega
  have hcl : ∀ j : Nat, Calls Try.prog 23 #[.slice A n c] (w.drewN j) fun e w' => ∃ A' c', e = .returned (.slice A' n c') ∧ Bs w' w.heap.size A' n c' xs ∧ Below w.heap.size w w' :=
    fun j => (clone_any (H.out.bs.drewN j) (by omega)).mono fun e w' ⟨A', c', he, hb, hB⟩ => ⟨A', c', he, hb, (pw_below_drewN (Below.refl _ _) j).trans hB⟩
  have HC := Aside0.mk hcl
  obtain ⟨i0, hi, hz0, hz1, hz2⟩ := info_parts info5
  clear h hcl
  go_enter Try.func17, Try.ntmps17
  go_wp2_with (first | (go_at_call 14; refine hp.mono ?_; rintro e w' ⟨rfl, ⟨nd, rfl⟩⟩) | (go_at_call 23; (refine (HC.out _).mono ?_); rintro e w1 ⟨A1, d1, rfl, hBs, hB⟩; obtain ⟨A2, d2, w2, hr2, hB2, hg2⟩ := add_zeros hBs (k * 256) hB.size (by omega) 40; rw [Int.natCast_mul] at hr2; have HR2 := Aside0.mk hr2; clear hr2; have hl1 := Nat.lt_of_lt_of_le hgl hB.size; have hne : blk A1 ≠ some g := (fun e => by have := (hBs.own.lt g (by rw [ownBlock_slice]; exact e)).1; omega); have hrow := (H.out.row.below hB hgl).grown hg2 hne; have q0 := hrow.cell 0; have q1 := hrow.frozen 0; simp only [List.getElem?_toArray, List.getElem?_cons_zero] at q0; have HR := Aside0.mk hrow; clear hrow) | (at_builtin; refine Lib.wpList_append_run _ rfl (.tmp 22) (.tmp 25) 40 3 rfl _ _ rfl rfl _ _ HR2.out ?_))
  go_ret
  have hBw : Below w.heap.size w w2 := hB.grown hg2 hB.size (fun j hj => (hBs.own.lt j (by rw [ownBlock_slice]; exact hj)).1)
  refine ⟨A2, d2, rfl, ⟨hB2.len, H.out.lo, by simpa using HR.out.put_ 0 (.slice A2 (n + k * 256) d2), ?_, ?_⟩, grown_set (grown_of_below hBw _) 0 _, fun j hj => (hB2.own.lt j (by rw [ownBlock_slice]; exact hj)).1⟩
  · exact (Bs.mono (⟨hB2.len, ownsRow_setCell_below hB2.own hgl _⟩ : Bs _ w.heap.size A2 (n + k * 256) d2 _) hbase).own
  · intro x hx
    rcases List.mem_append.1 hx with h1 | h1
    · exact H.out.rng x h1
    · exact rep_range _ x h1
end Go.Proofs.Ytefihkcmlmapoaa.Mem
