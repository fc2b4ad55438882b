/- TextStays: the walk. -/
import Derived.Test.YtjenbegobpfclaaQt3
import Derived.BigQuiet
set_option linter.unusedVariables false
set_option linter.unusedSimpArgs false
namespace Go.Proofs.Ytjenbegobpfclaa.Tx
open Go.RowKit Go.Proofs.Ytjenbegobpfclaa.Man Go.Proofs.YtjenbegobpfclaaW.PrintWords Go.Proofs.YtjenbegobpfclaaW.PrintLast Go.Proofs.YtjenbegobpfclaaW.PrintMore Go.Proofs.Ytjenbegobpfclaa.RTextAll Go.Proofs.Ytjenbegobpfclaa.Tp
/-- What Bytes of a string tells. -/
def Tells (W : World) (r : Except Int (List Int)) (u v : Value) (w' : World) : Prop :=
  match r with
  | .ok cs => v = .nilIface ∧ (Kd.int .u8).R 5 w' W.heap.size (fun _ => True) u cs
  | .error i => u = .slice none 0 0 ∧ ∃ p, v = .iface 61 (.pointer (some ⟨p, 0, none⟩))
theorem bytes_v (W : World) (s : ByteArray) (hs : s.size ≤ 1000000) (K : Nat) (r : Except Int (List Int)) (h : bysL (s.size + 1) K s 0 [] = some r) : Calls Try.prog 14 #[.string s] W fun e w' => ∃ u v, e = .returned (.tuple #[u, v]) ∧ Below W.heap.size W w' ∧ Tells W r u v w' := by
  refine (bytes_calls W s hs K r h).mono fun e w' hr => ?_
  cases r with
  | ok cs =>
    obtain ⟨A', c', h1, h2, h3⟩ := hr
    exact ⟨_, _, h1, h3, rfl, h2⟩
  | error i =>
    obtain ⟨p, h1, _, _, _, h5⟩ := hr
    exact ⟨_, _, h1, h5, rfl, p, rfl⟩
theorem str_ofN {w : World} {A : Option Addr} {c : Nat} {l : List Int} (h : (Kd.int .u8).C w A l.length l) : ∀ k, (convert 34 9 (.slice A l.length c)).run Try.prog (w.drewN k) = .ok (.string (strOfNums l)) (w.drewN k) :=
  fun k => str_of (Kd.C_below h (pw_below_drewN (Below.refl _ _) k))
theorem str_nilN {w : World} : ∀ k, (convert 34 9 (.slice none 0 0)).run Try.prog (w.drewN k) = .ok (.string ⟨#[]⟩) (w.drewN k) :=
  fun k => run_convert_bytes_nil _ 34 5 Try.underlying34 Try.underlying5 0 0 9 Try.underlying9
set_option maxRecDepth 100000 in
set_option maxHeartbeats 8000000 in
theorem stays_in (W : World) (A : Option Addr) (c : Nat) (b : List Int) (s : ByteArray) (hA : Kd.C (Kd.int .u8) W A b.length b) (hc : b.length ≤ c) (bb : Byts b) (lb : b.length ≤ 1000) (ls : s.size ≤ 1000) :
    Calls Try.prog 7 #[.slice A b.length c, .string s] W fun e w' => e = .returned (.bool true) ∧ Below W.heap.size W w' := by
  have hu25 := Try.underlying25
  have CU := Aside0.mk (fun W5 : World => up_calls W5)
  have HL := Aside0.mk lb
  have HA := Aside0.mk hA
  have CQ := Aside0.mk (fun (W5 : World) (A5 : Option Addr) (c5 : Nat) (h5 : Kd.C (Kd.int .u8) W5 A5 b.length b) (h6 : b.length ≤ c5) => quote_calls W5 A5 c5 b h5 h6 bb (by omega))
  obtain ⟨r, hr, hrl⟩ := bys_all s ls
  have CB := Aside0.mk (fun W5 : World => bytes_v W5 s (by omega) 12 r hr)
  have HRL := Aside0.mk hrl
  have HC := Aside0.mk hc
  have g1 : decide ((1000 : Int) < (b.length : Int)) = false := decide_eq_false (by omega)
  have g1' : (1000 < b.length) = False := eq_false (by omega)
  have g2 : decide ((1000 : Int) < (s.size : Int)) = false := decide_eq_false (by omega)
  have g2' : (1000 < s.size) = False := eq_false (by omega)
  clear hA bb lb hr hrl hc ls
  go_enter Try.func7, Try.ntmps7
  go_upto_region 4 with (go_at_call 8; (refine (CU.out _).mono ?_); rintro e w1 ⟨rfl, hB1⟩; have HB1 := Aside0.mk hB1; clear hB1)
  go_upto_region 5 with (first
    | ((with_reducible refine gate_dst (N := 26) rfl ?_); refine Kd.R_lit (Kd.int .u8) _ 5 ?hg (N := 26) ?hd (xs := ([] : List Int)) (inner := []) (ok := fun _ => True) (okp := fun _ => True) ?hr ?hp (fun _ hk => hk) trivial (Below.refl _ _) (Nat.le_refl _) (by simp) ?_; (case hd => rfl); (case hg => rfl); (case hr => first | (go_simp; done) | (go_simp; rfl)); (case hp => exact (Reps.none _ _)); intro v16 w4 ho hb hg_ hnew_; clear hg_ hnew_; have HO4 := Aside0.mk ho; have HB4 := Aside0.mk hb; clear ho hb)
    | ((with_reducible refine gate_builtin (b := .append) (xs := #[.tmp 26, .tmp 27]) rfl ?_); at_builtin; refine Kd.R_append_rows (Kd.int .u8) (w0 := w1) w1.heap.size rfl (.tmp 26) (.tmp 27) 34 5 (.int .u8 0) 1 rfl Try.underlying34 inf5 rfl (Nat.zero_lt_succ _) (by omega) v16 ([] : List Int) b _ _ _ (fun _ => True) (fun _ => False) rfl rfl ?aO ?aR (fun _ _ h => h) (fun _ h => h.elim) ?aF ?aB ?aS ?aL ?_; (case aR => exact (Kd.C_below (Kd.C_below HA.out HB1.out) (by repeat (first | exact HB4.out | apply below_alloc | apply pw_below_drewN | apply below_drew)))); (case aB => exact (by repeat (first | exact HB4.out | apply below_alloc | apply pw_below_drewN | apply below_drew))); (case aF => exact (fun _ _ => trivial)); (case aO => exact (by (with_reducible repeat (first | apply Kd.R_alloc | apply Kd.R_drewN | apply Kd.R_drew)); exact HO4.out)); (case aS => exact (below_size (by repeat (first | exact HB4.out | apply below_alloc | apply pw_below_drewN | apply below_drew)))); (case aL => have := HL.out; simp; omega); intro v18 w5 ho hb hg hat; have ho2 := ho; rw [List.nil_append] at ho2; obtain ⟨A5, c5, e5⟩ := Kd.R_slice ho2; subst e5; have HO5 := Aside0.mk ho2; have HB5 := Aside0.mk (HB1.out.trans (hb.mono HB1.out.size)); have HR5 := Aside0.mk hb.size; clear ho ho2 hb hg hat))
  go_upto_region 6 with (go_at_call 12; (refine (CQ.out _ A5 c5 (Kd.R_reads' HO5.out).2.2 (Kd.R_reads' HO5.out).2.1).mono ?_); rintro e w6 ⟨rfl, hB6⟩; have HB6 := Aside0.mk (HB5.out.trans (hB6.mono HB5.out.size)); have HO6 := Aside0.mk (Kd.R_below HO5.out hB6); clear hB6)
  clear HO4 HB4 HO5 HR5
  have j1 := str_of (c := c5) (Kd.R_reads' HO6.out).2.2
  have j2 := str_of (c := c) (Kd.C_below HA.out HB6.out)
  go_upto_region 7 with fail
  have HO7 := Aside0.mk (Kd.R_lower HO6.out HB1.out.size)
  have HL5 := Aside0.mk (show b.length ≤ 1000 from HL.out)
  clear j1 j2 HO6
  go_wp2_with fail
  go_loopg [9] b.length (fun kq v9 w' => ∃ (j : Nat), v9 = .int .i64 (j : Int) ∧ j + kq = b.length ∧ Aside0 (Below W.heap.size W w') ∧ ∃ zs : List Int, (Kd.int .u8).R 5 w' W.heap.size (fun _ => True) (.slice A5 b.length c5) zs)
  case atStart => exact ⟨0, rfl, by omega, HB6, b, HO7.out⟩
  case round =>
    obtain ⟨j, rfl, hj, HB, zs, hz⟩ := hrel
    cases gk with
    | succ k2 =>
      have q1 : ((j : Int) < (b.length : Int)) = True := eq_true (by omega)
      have q1' : (j < b.length) = True := eq_true (by omega)
      have hlz := (Kd.R_reads' hz).1
      obtain ⟨g, rfl⟩ : ∃ g, A5 = some ⟨g, 0, none⟩ := by
        obtain ⟨g, cap, he, _⟩ := Kd.R_form hz (by omega)
        simp only [Value.slice.injEq] at he
        exact ⟨g, he.1⟩
      have hg1 := Kd.R_base hz g (by simp [Value.ownBlock])
      obtain ⟨c5c, z5⟩ := Kd.R_celln (d := (0 : Int)) hz j (by omega) (by omega)
      simp only [Int.toNat_natCast] at c5c z5
      obtain ⟨y, hy⟩ : ∃ y, y = rdOf (0 : Int) zs (j : Int) := ⟨_, rfl⟩
      rw [← hy] at c5c
      have hz2 := Kd.R_putn hz j (IntKind.u8.wrap (y + 1))
      simp only [Int.toNat_natCast] at hz2
      have hB2 : Below W.heap.size W (wr.setCell ⟨g, j, none⟩ (.int .u8 (IntKind.u8.wrap (y + 1)))) := HB.out.setCell hg1 _
      have i0 : (0 : Int) ≤ (j : Int) := by omega
      have e8 : wrap64 ((j : Int) + 1) = (j : Int) + 1 := by have := HL5.out; unfold wrap64; omega
      have HZ2 := Aside0.mk hz2
      have HB2 := Aside0.mk hB2
      clear hz hz2 hB2 hlz hy
      go_wp2_with fail
      go_roundg k2
      case measure => omega
      case rel => exact ⟨j + 1, by first | rfl | (rw [e8]; rfl), by omega, HB2, _, HZ2.out⟩
    | zero =>
      have q1 : ((j : Int) < (b.length : Int)) = False := eq_false (by omega)
      have q1' : (j < b.length) = False := eq_false (by omega)
      clear hz hj
      go_upto_region 12 with (go_at_call 14; (refine (CB.out _).mono ?_); rintro e w8 ⟨u8, v8, rfl, hB8, hT8⟩; have HB8 := Aside0.mk (HB.out.trans (hB8.mono HB.out.size)); have HT8 := Aside0.mk hT8; clear hB8 hT8)
      cases r with
      | ok cs =>
        obtain ⟨rfl, hR8⟩ := HT8.out
        obtain ⟨A8, c8, rfl⟩ := Kd.R_slice hR8
        have HR8 := Aside0.mk hR8
        have hcl := HRL.out cs rfl
        have HCL := Aside0.mk hcl
        have j3 := str_of (c := c8) (Kd.R_reads' hR8).2.2
        clear hR8 HT8 hcl HRL
        go_upto_region 13 with fail
        have HR9 := Aside0.mk (Kd.R_lower HR8.out HB.out.size)
        clear j3 HR8
        go_wp2_with fail
        go_loopg [13] cs.length (fun kq v13 w' => ∃ (j : Nat), v13 = .int .i64 (j : Int) ∧ j + kq = cs.length ∧ Aside0 (Below W.heap.size W w') ∧ ∃ zs : List Int, (Kd.int .u8).R 5 w' W.heap.size (fun _ => True) (.slice A8 cs.length c8) zs)
        case atStart => exact ⟨0, rfl, by omega, HB8, cs, HR9.out⟩
        case round =>
          obtain ⟨j2, rfl, hj2, HB9, zs2, hz9⟩ := hrel
          cases gk with
          | succ k3 =>
            have q2 : ((j2 : Int) < (cs.length : Int)) = True := eq_true (by omega)
            have q2' : (j2 < cs.length) = True := eq_true (by omega)
            have hlz := (Kd.R_reads' hz9).1
            obtain ⟨g, rfl⟩ : ∃ g, A8 = some ⟨g, 0, none⟩ := by
              obtain ⟨g, cap, he, _⟩ := Kd.R_form hz9 (by omega)
              simp only [Value.slice.injEq] at he
              exact ⟨g, he.1⟩
            have hg1 := Kd.R_base hz9 g (by simp [Value.ownBlock])
            obtain ⟨c5c, z5⟩ := Kd.R_celln (d := (0 : Int)) hz9 j2 (by omega) (by omega)
            simp only [Int.toNat_natCast] at c5c z5
            have hz2 := Kd.R_putn hz9 j2 1
            simp only [Int.toNat_natCast] at hz2
            have hB2 : Below W.heap.size W (wr.setCell ⟨g, j2, none⟩ (.int .u8 1)) := HB9.out.setCell hg1 _
            have i0 : (0 : Int) ≤ (j2 : Int) := by omega
            have e8 : wrap64 ((j2 : Int) + 1) = (j2 : Int) + 1 := by have := HCL.out; unfold wrap64; omega
            have HZ2 := Aside0.mk hz2
            have HB2 := Aside0.mk hB2
            clear hz9 hz2 hB2 hlz
            go_wp2_with fail
            go_roundg k3
            case measure => omega
            case rel => exact ⟨j2 + 1, by first | rfl | (rw [e8]; rfl), by omega, HB2, _, HZ2.out⟩
          | zero =>
            have q2 : ((j2 : Int) < (cs.length : Int)) = False := eq_false (by omega)
            have q2' : (j2 < cs.length) = False := eq_false (by omega)
            clear hz9 hj2
            go_upto_region 18 with (go_at_call 14; (refine (CB.out _).mono ?_); rintro e w10 ⟨u10, v10, rfl, hB10, hT10⟩; have HB10 := Aside0.mk (HB9.out.trans (hB10.mono HB9.out.size)); have HT10 := Aside0.mk hT10; clear hB10 hT10)
            obtain ⟨rfl, hR10⟩ := HT10.out
            obtain ⟨A10, c10, rfl⟩ := Kd.R_slice hR10
            have HR10 := Aside0.mk hR10
            clear hR10 HT10
            refine wp_region_heldP (fun _ _ => True) (by kernel_rfl) ?_
            simp only [List.size_toArray, List.length_cons, List.length_nil, Nat.zero_add, Nat.reduceAdd, Array.replicate, List.replicate]
            refine takeA 0 (.bool true) rfl (by kernel_rfl) (by kernel_rfl) (by kernel_rfl) (fun _ _ _ h => h) (by rfl) (by intro w; go_simp) ?_
            simp only [Act.put, List.setIfInBounds_toArray, List.set_cons_zero, List.set_cons_succ]
            refine takeA 1 (.bool true) rfl (by kernel_rfl) (by kernel_rfl) (by kernel_rfl) (fun _ _ _ h => h) (by rfl) (by intro w; go_simp) ?_
            simp only [Act.put, List.setIfInBounds_toArray, List.set_cons_zero, List.set_cons_succ]
            refine takeA 2 (.bool true) rfl (by kernel_rfl) (by kernel_rfl) (by kernel_rfl) (fun _ _ _ h => h) (by rfl) (by intro w; go_simp) ?_
            simp only [Act.put, List.setIfInBounds_toArray, List.set_cons_zero, List.set_cons_succ]
            refine takeA 3 (.bool true) rfl (by kernel_rfl) (by kernel_rfl) (by kernel_rfl) (fun _ _ _ h => h) (by rfl) (by intro w; go_simp) ?_
            simp only [Act.put, List.setIfInBounds_toArray, List.set_cons_zero, List.set_cons_succ]
            refine takeA 4 (.bool true) rfl (by kernel_rfl) (by kernel_rfl) (by kernel_rfl) (fun _ _ _ h => h) (by rfl) (by intro w; go_simp) ?_
            simp only [Act.put, List.setIfInBounds_toArray, List.set_cons_zero, List.set_cons_succ]
            refine takeA 5 (.string ⟨(quo b).toArray⟩) rfl (by kernel_rfl) (by kernel_rfl) (by kernel_rfl) (fun _ _ _ h => h) (by rfl) (by intro w; go_simp) ?_
            simp only [Act.put, List.setIfInBounds_toArray, List.set_cons_zero, List.set_cons_succ]
            refine takeA 6 (.slice A b.length c) rfl (by kernel_rfl) (by kernel_rfl) (by kernel_rfl) (fun _ _ _ h => h) (by rfl) (by intro w; go_simp) ?_
            simp only [Act.put, List.setIfInBounds_toArray, List.set_cons_zero, List.set_cons_succ]
            refine wpAnyP_one (i := 7) (by kernel_rfl) (wpOp_run (i := 7) rfl (fun K7 hK7 => ?_))
            go_simp
            refine (CQ.out _ A c (Kd.C_below HA.out (below_drew HB10.out)) HC.out).mono ?_
            rintro e w11 ⟨rfl, hB11⟩
            have HD11 := Aside0.mk hB11
            have HB11 := Aside0.mk ((below_drew HB10.out).trans (hB11.mono (below_drew HB10.out).size)); clear hB11
            refine hK7.out _ _ ⟨trivial, ?_⟩
            clear hK7 K7
            simp only [Act.put, List.setIfInBounds_toArray, List.set_cons_zero, List.set_cons_succ]
            refine takeA 8 (.bool true) rfl (by kernel_rfl) (by kernel_rfl) (by kernel_rfl) (fun _ _ _ h => h) (by rfl) (by intro w; go_simp) ?_
            simp only [Act.put, List.setIfInBounds_toArray, List.set_cons_zero, List.set_cons_succ]
            refine takeA 9 (.bool true) rfl (by kernel_rfl) (by kernel_rfl) (by kernel_rfl) (fun _ _ _ h => h) (by rfl) (by intro w; go_simp) ?_
            simp only [Act.put, List.setIfInBounds_toArray, List.set_cons_zero, List.set_cons_succ]
            refine takeA 10 (.bool true) rfl (by kernel_rfl) (by kernel_rfl) (by kernel_rfl) (fun _ _ _ h => h) (by rfl) (by intro w; go_simp) ?_
            simp only [Act.put, List.setIfInBounds_toArray, List.set_cons_zero, List.set_cons_succ]
            refine takeA 11 Value.nilIface rfl (by kernel_rfl) (by kernel_rfl) (by kernel_rfl) (fun _ _ _ h => h) (by rfl) (by intro w; go_simp) ?_
            simp only [Act.put, List.setIfInBounds_toArray, List.set_cons_zero, List.set_cons_succ]
            refine takeA 12 (.bool true) rfl (by kernel_rfl) (by kernel_rfl) (by kernel_rfl) (fun _ _ _ h => h) (by rfl) (by intro w; go_simp) ?_
            simp only [Act.put, List.setIfInBounds_toArray, List.set_cons_zero, List.set_cons_succ]
            refine takeA 13 Value.nilIface rfl (by kernel_rfl) (by kernel_rfl) (by kernel_rfl) (fun _ _ _ h => h) (by rfl) (by intro w; go_simp) ?_
            simp only [Act.put, List.setIfInBounds_toArray, List.set_cons_zero, List.set_cons_succ]
            refine takeA 14 (.bool true) rfl (by kernel_rfl) (by kernel_rfl) (by kernel_rfl) (fun _ _ _ h => h) (by rfl) (by intro w; go_simp) ?_
            simp only [Act.put, List.setIfInBounds_toArray, List.set_cons_zero, List.set_cons_succ]
            refine takeA 15 (.bool true) rfl (by kernel_rfl) (by kernel_rfl) (by kernel_rfl) (fun _ _ _ h => h) (by rfl) (by intro w; go_simp) ?_
            simp only [Act.put, List.setIfInBounds_toArray, List.set_cons_zero, List.set_cons_succ]
            refine takeA 16 (.bool true) rfl (by kernel_rfl) (by kernel_rfl) (by kernel_rfl) (fun _ _ _ h => h) (by rfl) (by intro w; go_simp) ?_
            simp only [Act.put, List.setIfInBounds_toArray, List.set_cons_zero, List.set_cons_succ]
            refine takeA 17 (.bool true) rfl (by kernel_rfl) (by kernel_rfl) (by kernel_rfl) (fun _ _ _ h => h) (by rfl) (by intro w; go_simp) ?_
            simp only [Act.put, List.setIfInBounds_toArray, List.set_cons_zero, List.set_cons_succ]
            refine takeA 18 (.slice A10 cs.length c10) rfl (by kernel_rfl) (by kernel_rfl) (by kernel_rfl) (fun _ _ _ h => h) (by rfl) (by intro w; go_simp) ?_
            simp only [Act.put, List.setIfInBounds_toArray, List.set_cons_zero, List.set_cons_succ]
            refine takeA 20 (.string (strOfNums cs)) rfl (by kernel_rfl) (by kernel_rfl) (by kernel_rfl) (fun _ _ _ h => h) (by rfl) (by intro w; go_simp) ?_
            simp only [Act.put, List.setIfInBounds_toArray, List.set_cons_zero, List.set_cons_succ]
            refine wpAnyP_one (i := 19) (by kernel_rfl) (wpOp_run (i := 19) rfl (fun K19 hK19 => ?_))
            have j5 := str_of (c := c10) (Kd.C_below (Kd.C_drew (Kd.R_reads' HR10.out).2.2) HD11.out)
            go_simp
            refine hK19.out _ _ ⟨trivial, ?_⟩
            clear hK19 K19
            simp only [Act.put, List.setIfInBounds_toArray, List.set_cons_zero, List.set_cons_succ]
            refine takeA 21 (.bool true) rfl (by kernel_rfl) (by kernel_rfl) (by kernel_rfl) (fun _ _ _ h => h) (by rfl) (by intro w; go_simp) ?_
            simp only [Act.put, List.setIfInBounds_toArray, List.set_cons_zero, List.set_cons_succ]
            refine takeA 22 (.bool true) rfl (by kernel_rfl) (by kernel_rfl) (by kernel_rfl) (fun _ _ _ h => h) (by rfl) (by intro w; go_simp) ?_
            simp only [Act.put, List.setIfInBounds_toArray, List.set_cons_zero, List.set_cons_succ]
            refine takeA 23 (.bool true) rfl (by kernel_rfl) (by kernel_rfl) (by kernel_rfl) (fun _ _ _ h => h) (by rfl) (by intro w; go_simp) ?_
            simp only [Act.put, List.setIfInBounds_toArray, List.set_cons_zero, List.set_cons_succ]
            refine wpAnyP_done (by kernel_rfl) ?_ _
            go_wp2_with fail
            go_ret
            exact ⟨rfl, HB11.out⟩
      | error i =>
        obtain ⟨rfl, p, rfl⟩ := HT8.out
        clear HT8
        have j3 := str_nilN (w := w8) 0
        have j4 : (convert 34 9 (.slice none 0 0)).run Try.prog w8 = .ok (.string ⟨#[]⟩) w8 := j3
        clear j3 HRL
        go_upto_region 13 with fail
        clear j4
        go_wp2_with fail
        go_loopg [13] 0 (fun kq v13 w' => v13 = .int .i64 0 ∧ w' = w8)
        case atStart => exact ⟨rfl, rfl⟩
        case round =>
          obtain ⟨rfl, rfl⟩ := hrel
          go_upto_region 18 with (go_at_call 14; (refine (CB.out _).mono ?_); rintro e w10 ⟨u10, v10, rfl, hB10, hT10⟩; have HB10 := Aside0.mk (HB8.out.trans (hB10.mono HB8.out.size)); have HT10 := Aside0.mk hT10; clear hB10 hT10)
          obtain ⟨rfl, q, rfl⟩ := HT10.out
          clear HT10
          refine wp_region_heldP (fun _ _ => True) (by kernel_rfl) ?_
          simp only [List.size_toArray, List.length_cons, List.length_nil, Nat.zero_add, Nat.reduceAdd, Array.replicate, List.replicate]
          refine takeA 0 (.bool true) rfl (by kernel_rfl) (by kernel_rfl) (by kernel_rfl) (fun _ _ _ h => h) (by rfl) (by intro w; go_simp) ?_
          simp only [Act.put, List.setIfInBounds_toArray, List.set_cons_zero, List.set_cons_succ]
          refine takeA 1 (.bool true) rfl (by kernel_rfl) (by kernel_rfl) (by kernel_rfl) (fun _ _ _ h => h) (by rfl) (by intro w; go_simp) ?_
          simp only [Act.put, List.setIfInBounds_toArray, List.set_cons_zero, List.set_cons_succ]
          refine takeA 2 (.bool true) rfl (by kernel_rfl) (by kernel_rfl) (by kernel_rfl) (fun _ _ _ h => h) (by rfl) (by intro w; go_simp) ?_
          simp only [Act.put, List.setIfInBounds_toArray, List.set_cons_zero, List.set_cons_succ]
          refine takeA 3 (.bool true) rfl (by kernel_rfl) (by kernel_rfl) (by kernel_rfl) (fun _ _ _ h => h) (by rfl) (by intro w; go_simp) ?_
          simp only [Act.put, List.setIfInBounds_toArray, List.set_cons_zero, List.set_cons_succ]
          refine takeA 4 (.bool true) rfl (by kernel_rfl) (by kernel_rfl) (by kernel_rfl) (fun _ _ _ h => h) (by rfl) (by intro w; go_simp) ?_
          simp only [Act.put, List.setIfInBounds_toArray, List.set_cons_zero, List.set_cons_succ]
          refine takeA 5 (.string ⟨(quo b).toArray⟩) rfl (by kernel_rfl) (by kernel_rfl) (by kernel_rfl) (fun _ _ _ h => h) (by rfl) (by intro w; go_simp) ?_
          simp only [Act.put, List.setIfInBounds_toArray, List.set_cons_zero, List.set_cons_succ]
          refine takeA 6 (.slice A b.length c) rfl (by kernel_rfl) (by kernel_rfl) (by kernel_rfl) (fun _ _ _ h => h) (by rfl) (by intro w; go_simp) ?_
          simp only [Act.put, List.setIfInBounds_toArray, List.set_cons_zero, List.set_cons_succ]
          refine wpAnyP_one (i := 7) (by kernel_rfl) (wpOp_run (i := 7) rfl (fun K7 hK7 => ?_))
          go_simp
          refine (CQ.out _ A c (Kd.C_below HA.out (below_drew HB10.out)) HC.out).mono ?_
          rintro e w11 ⟨rfl, hB11⟩
          have HD11 := Aside0.mk hB11
          have HB11 := Aside0.mk ((below_drew HB10.out).trans (hB11.mono (below_drew HB10.out).size)); clear hB11
          refine hK7.out _ _ ⟨trivial, ?_⟩
          clear hK7 K7
          simp only [Act.put, List.setIfInBounds_toArray, List.set_cons_zero, List.set_cons_succ]
          refine takeA 8 (.bool true) rfl (by kernel_rfl) (by kernel_rfl) (by kernel_rfl) (fun _ _ _ h => h) (by rfl) (by intro w; go_simp) ?_
          simp only [Act.put, List.setIfInBounds_toArray, List.set_cons_zero, List.set_cons_succ]
          refine takeA 9 (.bool true) rfl (by kernel_rfl) (by kernel_rfl) (by kernel_rfl) (fun _ _ _ h => h) (by rfl) (by intro w; go_simp) ?_
          simp only [Act.put, List.setIfInBounds_toArray, List.set_cons_zero, List.set_cons_succ]
          refine takeA 10 (.bool true) rfl (by kernel_rfl) (by kernel_rfl) (by kernel_rfl) (fun _ _ _ h => h) (by rfl) (by intro w; go_simp) ?_
          simp only [Act.put, List.setIfInBounds_toArray, List.set_cons_zero, List.set_cons_succ]
          refine takeA 11 (.iface 61 (.pointer (some ⟨p, 0, none⟩))) rfl (by kernel_rfl) (by kernel_rfl) (by kernel_rfl) (fun _ _ _ h => h) (by rfl) (by intro w; go_simp) ?_
          simp only [Act.put, List.setIfInBounds_toArray, List.set_cons_zero, List.set_cons_succ]
          refine takeA 12 (.bool false) rfl (by kernel_rfl) (by kernel_rfl) (by kernel_rfl) (fun _ _ _ h => h) (by rfl) (by intro w; go_simp) ?_
          simp only [Act.put, List.setIfInBounds_toArray, List.set_cons_zero, List.set_cons_succ]
          refine takeA 13 (.iface 61 (.pointer (some ⟨q, 0, none⟩))) rfl (by kernel_rfl) (by kernel_rfl) (by kernel_rfl) (fun _ _ _ h => h) (by rfl) (by intro w; go_simp) ?_
          simp only [Act.put, List.setIfInBounds_toArray, List.set_cons_zero, List.set_cons_succ]
          refine takeA 14 (.bool false) rfl (by kernel_rfl) (by kernel_rfl) (by kernel_rfl) (fun _ _ _ h => h) (by rfl) (by intro w; go_simp) ?_
          simp only [Act.put, List.setIfInBounds_toArray, List.set_cons_zero, List.set_cons_succ]
          refine takeA 15 (.bool true) rfl (by kernel_rfl) (by kernel_rfl) (by kernel_rfl) (fun _ _ _ h => h) (by rfl) (by intro w; go_simp) ?_
          simp only [Act.put, List.setIfInBounds_toArray, List.set_cons_zero, List.set_cons_succ]
          refine takeA 16 (.bool true) rfl (by kernel_rfl) (by kernel_rfl) (by kernel_rfl) (fun _ _ _ h => h) (by rfl) (by intro w; go_simp) ?_
          simp only [Act.put, List.setIfInBounds_toArray, List.set_cons_zero, List.set_cons_succ]
          refine takeA 17 (.bool true) rfl (by kernel_rfl) (by kernel_rfl) (by kernel_rfl) (fun _ _ _ h => h) (by rfl) (by intro w; go_simp) ?_
          simp only [Act.put, List.setIfInBounds_toArray, List.set_cons_zero, List.set_cons_succ]
          refine takeA 18 (.slice none 0 0) rfl (by kernel_rfl) (by kernel_rfl) (by kernel_rfl) (fun _ _ _ h => h) (by rfl) (by intro w; go_simp) ?_
          simp only [Act.put, List.setIfInBounds_toArray, List.set_cons_zero, List.set_cons_succ]
          refine takeA 20 (.string ⟨#[]⟩) rfl (by kernel_rfl) (by kernel_rfl) (by kernel_rfl) (fun _ _ _ h => h) (by rfl) (by intro w; go_simp) ?_
          simp only [Act.put, List.setIfInBounds_toArray, List.set_cons_zero, List.set_cons_succ]
          refine wpAnyP_one (i := 19) (by kernel_rfl) (wpOp_run (i := 19) rfl (fun K19 hK19 => ?_))
          have j5 := str_nilN (w := w11) 0
          have j6 : (convert 34 9 (.slice none 0 0)).run Try.prog w11 = .ok (.string ⟨#[]⟩) w11 := j5
          go_simp
          refine hK19.out _ _ ⟨trivial, ?_⟩
          clear hK19 K19
          simp only [Act.put, List.setIfInBounds_toArray, List.set_cons_zero, List.set_cons_succ]
          refine takeA 21 (.bool true) rfl (by kernel_rfl) (by kernel_rfl) (by kernel_rfl) (fun _ _ _ h => h) (by rfl) (by intro w; go_simp) ?_
          simp only [Act.put, List.setIfInBounds_toArray, List.set_cons_zero, List.set_cons_succ]
          refine takeA 22 (.bool true) rfl (by kernel_rfl) (by kernel_rfl) (by kernel_rfl) (fun _ _ _ h => h) (by rfl) (by intro w; go_simp) ?_
          simp only [Act.put, List.setIfInBounds_toArray, List.set_cons_zero, List.set_cons_succ]
          refine takeA 23 (.bool true) rfl (by kernel_rfl) (by kernel_rfl) (by kernel_rfl) (fun _ _ _ h => h) (by rfl) (by intro w; go_simp) ?_
          simp only [Act.put, List.setIfInBounds_toArray, List.set_cons_zero, List.set_cons_succ]
          refine wpAnyP_done (by kernel_rfl) ?_ _
          go_wp2_with fail
          go_ret
          exact ⟨rfl, HB11.out⟩
set_option maxHeartbeats 4000000 in
theorem stays (W : World) (A : Option Addr) (c : Nat) (l : List Int) (s : ByteArray) (hC : Kd.C (Kd.int .u8) W A l.length l) (hc : l.length ≤ c) (hl : Byts l) :
    Calls Try.prog 7 #[.slice A l.length c, .string s] W fun e w' => e = .returned (.bool true) ∧ Below W.heap.size W w' := by
  by_cases h1 : l.length ≤ 1000
  · by_cases h2 : s.size ≤ 1000
    · exact stays_in W A c l s hC hc hl h1 h2
    · have CU := Aside0.mk (fun W5 : World => up_calls W5)
      have l1 : decide (((l.length : Nat) : Int) > 1000) = false := decide_eq_false (by omega)
      have l1' : (1000 < l.length) = False := eq_false (by omega)
      have l2 : decide (((s.size : Nat) : Int) > 1000) = true := decide_eq_true (by omega)
      have l2' : (1000 < s.size) = True := eq_true (by omega)
      clear h1 h2 hC hl hc
      go_enter Try.func7, Try.ntmps7
      go_wp2_with (go_at_call 8; (refine (CU.out _).mono ?_); rintro e1 w1 ⟨rfl, hB1⟩; have HB1 := Aside0.mk hB1; clear hB1)
      go_ret
      exact ⟨rfl, HB1.out⟩
  · have CU := Aside0.mk (fun W5 : World => up_calls W5)
    have l1 : decide (((l.length : Nat) : Int) > 1000) = true := decide_eq_true (by omega)
    have l1' : (1000 < l.length) = True := eq_true (by omega)
    clear h1 hC hl hc
    go_enter Try.func7, Try.ntmps7
    go_wp2_with (go_at_call 8; (refine (CU.out _).mono ?_); rintro e1 w1 ⟨rfl, hB1⟩; have HB1 := Aside0.mk hB1; clear hB1)
    go_ret
    exact ⟨rfl, HB1.out⟩
end Go.Proofs.Ytjenbegobpfclaa.Tx
