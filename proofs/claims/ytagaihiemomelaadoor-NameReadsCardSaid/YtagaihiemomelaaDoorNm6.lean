/- The law NameStays, walked: what is handed in stays; what was told stays, whatever becomes of it. -/
import Derived.Test.YtagaihiemomelaaDoorNm4
import Derived.BigQuiet
namespace Go.Proofs.YtagaihiemomelaaDoor.Nm
open Go.RowKit Go.Proofs.YtagaihiemomelaaDoorW.PrintWords Go.Proofs.YtagaihiemomelaaDoorW.PrintLast Go.Proofs.YtagaihiemomelaaDoorW.PrintMore Go.Proofs.YtagaihiemomelaaDoor.RNameReads Go.Proofs.YtagaihiemomelaaDoor.Man
set_option linter.unusedVariables false
set_option linter.unusedSimpArgs false
/-- What Chars of bytes tells. -/
def Tells (W : World) (r : Except Nat (List Int)) (u v : Value) (w' : World) : Prop :=
  match r with
  | .ok cs => v = .nilIface ∧ I64.R 3 w' W.heap.size (fun _ => True) u cs
  | .error i => u = .slice none 0 0 ∧ ∃ p, v = .iface 44 (.pointer (some ⟨p, 0, none⟩))
theorem chars_v (W : World) (A : Option Addr) (c : Nat) (l : List Int) (h : U8.C W A l.length l) (hc : l.length ≤ c) (hb : Bytes l) (hl : l.length ≤ 100000) :
    Calls Tryd.prog 9 #[.slice A l.length c] W fun e w' => ∃ u v, e = .returned (.tuple #[u, v]) ∧ Below W.heap.size W w' ∧ Tells W (dec l) u v w' := by
  refine (chars_calls W A c l h hc hb hl).mono fun e w' hr => ?_
  rw [chars_dec] at hr
  cases hd : dec l with
  | ok cs =>
    rw [hd] at hr
    obtain ⟨A', c', h1, h2, h3⟩ := hr
    exact ⟨_, _, h1, h3, rfl, h2⟩
  | error i =>
    rw [hd] at hr
    obtain ⟨p, h1, _, _, _, h5⟩ := hr
    exact ⟨_, _, h1, h5, rfl, p, rfl⟩
theorem str_of {w : World} {A : Option Addr} {c : Nat} {l : List Int} (h : U8.C w A l.length l) : ∀ k, (convert 22 9 (.slice A l.length c)).run Tryd.prog (w.drewN k) = .ok (.string (strOfNums l)) (w.drewN k) :=
  fun k => Kd.C_string (P := Tryd.prog) (A := A) (c := c) Tryd.underlying22 Tryd.underlying5 Tryd.underlying9 (Kd.C_below h (pw_below_drewN (Below.refl _ _) k))
theorem head_char {cs : List Int} {l : List Int} (hb : Bytes l) (h : dec l = .ok cs) (hp : 0 < cs.length) : 0 ≤ rdOf (0 : Int) cs 0 := by
  cases cs with
  | nil => exact absurd hp (Nat.lt_irrefl 0)
  | cons c r =>
    have := (dec_enc l.length l (c :: r) (Nat.le_refl _) hb h).1 c (List.mem_cons_self ..)
    exact (char_range this).1
set_option maxHeartbeats 8000000 in
theorem stays_in (W : World) (hG : GL W) (A : Option Addr) (c : Nat) (b : List Int) (hA : U8.C W A b.length b) (hc : b.length ≤ c) (bb : Bytes b) (lb : b.length ≤ 1000) :
    Calls Tryd.prog 5 #[.slice A b.length c] W fun e w' => e = .returned (.bool true) ∧ Below W.heap.size W w' := by
  have HG := Aside0.mk hG
  have HL := Aside0.mk lb
  have HA := Aside0.mk hA
  have HBY := Aside0.mk bb
  have CH := Aside0.mk (show ∀ (W5 : World) (A5 : Option Addr) (c5 : Nat), U8.C W5 A5 b.length b → b.length ≤ c5 → Calls Tryd.prog 9 #[.slice A5 b.length c5] W5 fun e w' => ∃ u v, e = .returned (.tuple #[u, v]) ∧ Below W5.heap.size W5 w' ∧ Tells W5 (dec b) u v w' from
    fun W5 A5 c5 h5 hc5 => chars_v W5 A5 c5 b h5 hc5 bb (by omega))
  have g1 : decide ((1000 : Int) < (b.length : Int)) = false := decide_eq_false (by omega)
  clear hG hA bb lb
  go_enter Tryd.func5, Tryd.ntmps5
  go_upto_region 4 with (go_at_call 8; (refine (grommetlaw02_up.calls true _ HG.out rfl).mono ?_); rintro e w1 ⟨rfl, hB1⟩; have HB1 := Aside0.mk hB1; clear hB1)
  go_upto_region 5 with (first
    | ((with_reducible refine gate_dst (N := 16) rfl ?_); refine Kd.R_lit (Kd.int .u8) _ 5 ?hg (N := 16) ?hd (xs := ([] : List Int)) (inner := []) (ok := fun _ => True) (okp := fun _ => True) ?hr ?hp (fun _ hk => hk) trivial (Below.refl _ _) (Nat.le_refl _) (by simp) ?_; (case hd => rfl); (case hg => rfl); (case hr => first | (go_simp; done) | (go_simp; rfl)); (case hp => exact (Reps.none _ _)); intro v16 w4 ho hb hg_ hnew_; clear hg_ hnew_; have HO4 := Aside0.mk ho; have HB4 := Aside0.mk hb; clear ho hb)
    | ((with_reducible refine gate_builtin (b := .append) (xs := #[.tmp 16, .tmp 17]) rfl ?_); at_builtin; refine Kd.R_append_rows (Kd.int .u8) (w0 := w1) w1.heap.size rfl (.tmp 16) (.tmp 17) 22 5 (.int .u8 0) 1 rfl Tryd.underlying22 info5 rfl (by decide) (by omega) v16 ([] : List Int) b _ _ _ (fun _ => True) (fun _ => False) rfl rfl ?aO ?aR (fun _ _ h => h) (fun _ h => h.elim) ?aF ?aB ?aS ?aL ?_; (case aR => exact (Kd.C_below (Kd.C_below HA.out HB1.out) (by repeat (first | exact HB4.out | apply below_alloc | apply pw_below_drewN | apply below_drew)))); (case aB => exact (by repeat (first | exact HB4.out | apply below_alloc | apply pw_below_drewN | apply below_drew))); (case aF => exact (fun _ _ => trivial)); (case aO => exact (by (with_reducible repeat (first | apply Kd.R_alloc | apply Kd.R_drewN | apply Kd.R_drew)); exact HO4.out)); (case aS => exact (below_size (by repeat (first | exact HB4.out | apply below_alloc | apply pw_below_drewN | apply below_drew)))); (case aL => have := HL.out; simp; omega); intro v18 w5 ho hb hg hat; have ho2 := ho; rw [List.nil_append] at ho2; obtain ⟨A5, c5, e5⟩ := Kd.R_slice ho2; subst e5; have HO5 := Aside0.mk ho2; have HB5 := Aside0.mk hb; clear ho ho2 hb hg hat))
  go_upto_region 6 with (go_at_call 9; (with_reducible refine (CH.out _ A5 c5 (Kd.R_reads' HO5.out).2.2 (Kd.R_reads' HO5.out).2.1).mono ?_); rintro e w6 ⟨ul, ve, rfl, hB6, hT6⟩; have HB6 := Aside0.mk hB6; have HT6 := Aside0.mk hT6; clear hB6 hT6)
  have HW5 := Aside0.mk (HB1.out.trans (HB5.out.mono HB1.out.size))
  have hC5 := (Kd.R_reads' HO5.out).2.2
  have hc5 := (Kd.R_reads' HO5.out).2.1
  have HC5 := Aside0.mk (And.intro hC5 hc5)
  clear hC5 hc5 HO4 HB4 HB5 HO5
  cases hd : dec b with
  | ok cs =>
    have h6 := HT6.out
    rw [hd] at h6
    obtain ⟨rfl, hR6⟩ := h6
    obtain ⟨A6, c6, rfl⟩ := Kd.R_slice hR6
    have HR6 := Aside0.mk hR6
    have HD := Aside0.mk hd
    have hcl : cs.length ≤ 1000000 := by
      have h9 := (dec_enc b.length b cs (Nat.le_refl _) HBY.out hd)
      have : cs.length ≤ (cs.flatMap enc).length := by
        clear h9 HR6 HD hR6 HT6 HB6 HW5 CH
        induction cs with
        | nil => simp
        | cons x r ih =>
          have hx := enc_length x
          have hw := width_of (c := x)
          rw [List.flatMap_cons, List.length_append, List.length_cons]
          have ih2 : r.length ≤ (r.flatMap enc).length := by
            clear ih hd
            induction r with
            | nil => simp
            | cons y q ihq =>
              have hy := enc_length y
              have hwy := width_of (c := y)
              rw [List.flatMap_cons, List.length_append, List.length_cons]
              omega
          omega
      rw [h9.2] at this
      have := HL.out
      omega
    have HCL := Aside0.mk hcl
    clear hR6 hd HT6 hcl
    go_wp2_with fail
    go_loopg [8] cs.length (fun kq v8 w' => ∃ (j : Nat), v8 = .int .i64 (j : Int) ∧ j + kq = cs.length ∧ Aside0 (Below w5.heap.size w5 w') ∧ ∃ zs : List Int, I64.R 3 w' w5.heap.size (fun _ => True) (.slice A6 cs.length c6) zs)
    case atStart => exact ⟨0, rfl, by omega, HB6, cs, HR6.out⟩
    case round =>
      obtain ⟨j, rfl, hj, HB, zs, hz⟩ := hrel
      cases gk with
      | zero =>
        have l1 : ((j : Int) < (cs.length : Int)) = False := eq_false (by omega)
        clear hz hj
        go_upto_region 12 with (go_at_call 9; (with_reducible refine (CH.out _ A5 c5 (Kd.C_below HC5.out.1 HB.out) HC5.out.2).mono ?_); rintro e w8 ⟨uk, vf, rfl, hB8, hT8⟩; have HB8 := Aside0.mk hB8; have HT8 := Aside0.mk hT8; clear hB8 hT8)
        have h8 := HT8.out
        rw [HD.out] at h8
        obtain ⟨rfl, hR8⟩ := h8
        obtain ⟨A8, c8, rfl⟩ := Kd.R_slice hR8
        have B58 := HB.out.trans (HB8.out.mono HB.out.size)
        have BW8 := HW5.out.trans (B58.mono HW5.out.size)
        have j1 := str_of (c := c5) (Kd.C_below HC5.out.1 B58)
        have j2 := str_of (c := c) (Kd.C_below HA.out BW8)
        have HW8 := Aside0.mk BW8
        clear B58 BW8 HT8 HR6
        by_cases hn : cs.length = 0
        · have n0 : ((cs.length : Int) == 0) = true := by rw [beq_iff_eq]; omega
          clear hR8
          go_quiet (fail)
          go_wp2
          go_ret
          exact ⟨rfl, by repeat (first | exact HW8.out | apply pw_below_drewN | apply below_drew)⟩
        · have n0 : ((cs.length : Int) == 0) = false := by rw [beq_eq_false_iff_ne]; omega
          obtain ⟨g8, rfl⟩ : ∃ g, A8 = some ⟨g, 0, none⟩ := by
            obtain ⟨g, cap, he, _⟩ := Kd.R_form hR8 (by omega)
            simp only [Value.slice.injEq] at he
            exact ⟨g, he.1⟩
          obtain ⟨c80, _⟩ := Kd.R_celln (d := (0 : Int)) hR8 0 (by decide) (by omega)
          simp only [Int.toNat_zero] at c80
          have hx0 := head_char HBY.out HD.out (by omega)
          obtain ⟨x0, hxe⟩ : ∃ x, x = rdOf (0 : Int) cs 0 := ⟨_, rfl⟩
          rw [← hxe] at c80 hx0
          have p0 : ((0 : Int) < (cs.length : Int)) = True := eq_true (by omega)
          have x1 : decide (0 ≤ x0) = true := decide_eq_true hx0
          clear hR8 hxe
          go_quiet (fail)
          go_wp2
          go_ret
          exact ⟨rfl, by repeat (first | exact HW8.out | apply pw_below_drewN | apply below_drew)⟩
      | succ k2 =>
        have l1 : ((j : Int) < (cs.length : Int)) = True := eq_true (by omega)
        have hlz := (Kd.R_reads' hz).1
        obtain ⟨g, rfl⟩ : ∃ g, A6 = some ⟨g, 0, none⟩ := by
          obtain ⟨g, cap, he, _⟩ := Kd.R_form hz (by omega)
          simp only [Value.slice.injEq] at he
          exact ⟨g, he.1⟩
        have hg1 := Kd.R_base hz g (by simp [Value.ownBlock])
        obtain ⟨c5c, z5⟩ := Kd.R_celln (d := (0 : Int)) hz j (by omega) (by omega)
        simp only [Int.toNat_natCast] at c5c z5
        have hz2 := Kd.R_putn hz j (-1)
        simp only [Int.toNat_natCast] at hz2
        have hB2 : Below w5.heap.size w5 (wr.setCell ⟨g, j, none⟩ (.int .i64 (-1))) := HB.out.setCell hg1 _
        have i0 : (0 : Int) ≤ (j : Int) := by omega
        have e8 : wrap64 ((j : Int) + 1) = (j : Int) + 1 := by have := HCL.out; unfold wrap64; omega
        have HZ2 := Aside0.mk hz2
        have HB2 := Aside0.mk hB2
        clear hz hz2 hB2 hlz
        go_wp2_with fail
        go_roundg k2
        case measure => omega
        case rel => exact ⟨j + 1, by first | rfl | (rw [e8]; rfl), by omega, HB2, _, HZ2.out⟩
  | error i =>
    have h6 := HT6.out
    rw [hd] at h6
    obtain ⟨rfl, p, rfl⟩ := h6
    have HD := Aside0.mk hd
    clear hd HT6
    go_wp2_with fail
    go_loopg [8] 0 (fun kq v8 w' => v8 = .int .i64 0 ∧ w' = w6)
    case atStart => exact ⟨rfl, rfl⟩
    case round =>
      obtain ⟨rfl, rfl⟩ := hrel
      go_upto_region 12 with (go_at_call 9; (with_reducible refine (CH.out _ A5 c5 (Kd.C_below HC5.out.1 HB6.out) HC5.out.2).mono ?_); rintro e w8 ⟨uk, vf, rfl, hB8, hT8⟩; have HB8 := Aside0.mk hB8; have HT8 := Aside0.mk hT8; clear hB8 hT8)
      have h8 := HT8.out
      rw [HD.out] at h8
      obtain ⟨rfl, q, rfl⟩ := h8
      have B58 := HB6.out.trans (HB8.out.mono HB6.out.size)
      have BW8 := HW5.out.trans (B58.mono HW5.out.size)
      have j1 := str_of (c := c5) (Kd.C_below HC5.out.1 B58)
      have j2 := str_of (c := c) (Kd.C_below HA.out BW8)
      have HW8 := Aside0.mk BW8
      clear B58 BW8 HT8
      go_quiet (fail)
      go_wp2
      go_ret
      exact ⟨rfl, by repeat (first | exact HW8.out | apply pw_below_drewN | apply below_drew)⟩
theorem stays (W : World) (hG : GL W) (A : Option Addr) (c : Nat) (b : List Int) (hA : U8.C W A b.length b) (hc : b.length ≤ c) (bb : Bytes b) :
    Calls Tryd.prog 5 #[.slice A b.length c] W fun e w' => e = .returned (.bool true) ∧ Below W.heap.size W w' := by
  by_cases lb : b.length ≤ 1000
  · exact stays_in W hG A c b hA hc bb lb
  · have HG := Aside0.mk hG
    have g1 : decide ((1000 : Int) < (b.length : Int)) = true := decide_eq_true (by omega)
    clear hG hA bb lb
    go_enter Tryd.func5, Tryd.ntmps5
    go_wp2_with (go_at_call 8; (refine (grommetlaw02_up.calls true _ HG.out rfl).mono ?_); rintro e w1 ⟨rfl, hB1⟩; have HB1 := Aside0.mk hB1; clear hB1)
    go_ret
    exact ⟨rfl, HB1.out⟩
end Go.Proofs.YtagaihiemomelaaDoor.Nm
