/- The law NameParts, walked: two parts of bytes, and both, one behind the other. -/
import Derived.Test.YtagaihiemomelaaDoorMan
import Derived.Test.YtagaihiemomelaaDoorNm3
import Derived.Test.YtagaihiemomelaaDoorErr3
namespace Go.Proofs.YtagaihiemomelaaDoor.Nm
open Go.RowKit Go.Proofs.YtagaihiemomelaaDoorW.PrintWords Go.Proofs.YtagaihiemomelaaDoorW.PrintLast Go.Proofs.YtagaihiemomelaaDoorW.PrintMore Go.Proofs.YtagaihiemomelaaDoor.RNameReads Go.Proofs.YtagaihiemomelaaDoor.Man
set_option linter.unusedVariables false
set_option linter.unusedSimpArgs false
theorem Bytes.app {a b : List Int} (ha : Bytes a) (hb : Bytes b) : Bytes (a ++ b) := fun x hx => by
  rcases List.mem_append.1 hx with h | h
  · exact ha x h
  · exact hb x h
theorem dec_err : ∀ (k : Nat) (l : List Int) (i : Nat), l.length ≤ k → dec l = .error i → i < l.length
  | k, l, i, hk, h => by
    rw [dec] at h
    by_cases ha : l = []
    · rw [dif_pos ha] at h; cases h
    · rw [dif_neg ha] at h
      have hpos : 0 < l.length := by cases l with | nil => exact absurd rfl ha | cons => simp
      by_cases z : (rdF l).2 = 0
      · rw [dif_pos z] at h; injection h with h; omega
      · rw [dif_neg z] at h
        have hn := rdF_n l
        match k, hk with
        | 0, hk => omega
        | k + 1, hk =>
          have ih := dec_err k (l.drop (rdF l).2.toNat)
          cases hd : dec (l.drop (rdF l).2.toNat) with
          | ok cs => rw [hd] at h; cases h
          | error j =>
            rw [hd] at h
            injection h with h
            have := ih j (by simp only [List.length_drop]; omega) hd
            simp only [List.length_drop] at this
            omega
/-- What Check of bytes tells. -/
def Says (r : Except Nat (List Int)) (v : Value) (w' : World) : Prop :=
  match r with
  | .ok _ => v = .nilIface
  | .error i => ∃ p, v = .iface 44 (.pointer (some ⟨p, 0, none⟩)) ∧ w'.cell? ⟨p, 0, none⟩ = some (.int .i64 (i : Int)) ∧ w'.cell? ⟨p, 1, none⟩ = some (.iface 33 (.int .i64 2))
theorem check_v (W : World) (A : Option Addr) (c : Nat) (l : List Int) (h : U8.C W A l.length l) (hc : l.length ≤ c) (hb : Bytes l) (hl : l.length ≤ 100000) :
    Calls Tryd.prog 10 #[.slice A l.length c] W fun e w' => ∃ v, e = .returned v ∧ Below W.heap.size W w' ∧ Says (dec l) v w' := by
  refine (check_calls W A c l h hc hb hl).mono fun e w' hr => ?_
  rw [chars_dec] at hr
  cases hd : dec l with
  | ok cs => rw [hd] at hr; exact ⟨_, hr.1, hr.2, rfl⟩
  | error i =>
    rw [hd] at hr
    obtain ⟨p, h1, h2, h3, _, h5⟩ := hr
    exact ⟨_, h1, h5, p, rfl, h2, h3⟩
theorem Says.below {r : Except Nat (List Int)} {v : Value} {w w' : World} (h : Says r v w) (hb : Below w.heap.size w w') : Says r v w' := by
  cases r with
  | ok cs => exact h
  | error i =>
    obtain ⟨p, h1, h2, h3⟩ := h
    exact ⟨p, h1, pw_cell_below hb h2, pw_cell_below hb h3⟩
set_option maxHeartbeats 8000000 in
theorem parts_in (W : World) (hG : GL W) (A : Option Addr) (c : Nat) (a : List Int) (hA : U8.C W A a.length a) (hc : a.length ≤ c) (ba : Bytes a) (B : Option Addr) (d : Nat) (b : List Int) (hB : U8.C W B b.length b) (hd : b.length ≤ d) (bb : Bytes b) (la : a.length ≤ 500) (lb : b.length ≤ 500) :
    Calls Tryd.prog 4 #[.slice A a.length c, .slice B b.length d] W fun e w' => e = .returned (.bool true) ∧ Below W.heap.size W w' := by
  have HG := Aside0.mk hG
  have HL := Aside0.mk (And.intro la lb)
  have HA := Aside0.mk hA
  have HBB := Aside0.mk hB
  have CA := Aside0.mk (show ∀ W5 : World, Below W.heap.size W W5 → Calls Tryd.prog 10 #[.slice A a.length c] W5 fun e w' => ∃ v, e = .returned v ∧ Below W5.heap.size W5 w' ∧ Says (dec a) v w' from
    fun W5 h5 => check_v W5 A c a (Kd.C_below hA h5) hc ba (by omega))
  have CB := Aside0.mk (show ∀ W5 : World, Below W.heap.size W W5 → Calls Tryd.prog 10 #[.slice B b.length d] W5 fun e w' => ∃ v, e = .returned v ∧ Below W5.heap.size W5 w' ∧ Says (dec b) v w' from
    fun W5 h5 => check_v W5 B d b (Kd.C_below hB h5) hd bb (by omega))
  have CAB := Aside0.mk (show ∀ (W5 : World) (A5 : Option Addr) (c5 : Nat), U8.C W5 A5 (a ++ b).length (a ++ b) → (a ++ b).length ≤ c5 → Calls Tryd.prog 10 #[.slice A5 (a ++ b).length c5] W5 fun e w' => ∃ v, e = .returned v ∧ Below W5.heap.size W5 w' ∧ Says (dec (a ++ b)) v w' from
    fun W5 A5 c5 h5 hc5 => check_v W5 A5 c5 (a ++ b) h5 hc5 (ba.app bb) (by simp; omega))
  have g1 : decide ((500 : Int) < (a.length : Int)) = false := decide_eq_false (by omega)
  have g2 : decide ((500 : Int) < (b.length : Int)) = false := decide_eq_false (by omega)
  have g1' : ((500 : Int) < (a.length : Int)) = False := eq_false (by omega)
  have g2' : ((500 : Int) < (b.length : Int)) = False := eq_false (by omega)
  have HB0 := Aside0.mk (Below.refl W.heap.size W)
  obtain ⟨ab, hab⟩ : ∃ l, l = a ++ b := ⟨_, rfl⟩
  rw [← hab] at CAB
  have HAB := Aside0.mk hab
  clear hab
  clear hG hA hB ba bb la lb
  go_enter Tryd.func4, Tryd.ntmps4
  go_upto_region 5 with (first
    | (go_at_call 8; (refine (grommetlaw02_up.calls true _ HG.out rfl).mono ?_); rintro e w1 ⟨rfl, hB1⟩; have HB1 := Aside0.mk hB1; clear hB1)
    | (go_at_call 10; (with_reducible refine (CA.out _ HB1.out).mono ?_); rintro e w2 ⟨va, rfl, hB2, hS2⟩; have HB2 := Aside0.mk (HB1.out.trans (hB2.mono HB1.out.size)); have HSA := Aside0.mk hS2; clear hB2 hS2))
  go_upto_region 6 with (go_at_call 10; (with_reducible refine (CB.out _ HB2.out).mono ?_); rintro e w3 ⟨vb, rfl, hB3, hS3⟩; have HB3 := Aside0.mk (HB2.out.trans (hB3.mono HB2.out.size)); have HSB := Aside0.mk hS3; have HSA3 := Aside0.mk (HSA.out.below hB3); clear hB3 hS3)
  go_upto_region 7 with (first
    | ((with_reducible refine gate_dst (N := 27) rfl ?_); refine Kd.R_lit (Kd.int .u8) _ 5 ?hg (N := 27) ?hd (xs := ([] : List Int)) (inner := []) (ok := fun _ => True) (okp := fun _ => True) ?hr ?hp (fun _ hk => hk) trivial (Below.refl _ _) (Nat.le_refl _) (by simp) ?_; (case hd => rfl); (case hg => rfl); (case hr => first | (go_simp; done) | (go_simp; rfl)); (case hp => exact (Reps.none _ _)); intro v27 w4 ho hb hg_ hnew_; clear hg_ hnew_; have HO4 := Aside0.mk ho; have HB4 := Aside0.mk hb; clear ho hb)
    | ((with_reducible refine gate_builtin (b := .append) (xs := #[.tmp 27, .tmp 28]) rfl ?_); at_builtin; refine Kd.R_append_rows (Kd.int .u8) (w0 := w3) w3.heap.size rfl (.tmp 27) (.tmp 28) 22 5 (.int .u8 0) 1 rfl Tryd.underlying22 info5 rfl (by decide) (by omega) v27 ([] : List Int) a _ _ _ (fun _ => True) (fun _ => False) rfl rfl ?aO ?aR (fun _ _ h => h) (fun _ h => h.elim) ?aF ?aB ?aS ?aL ?_; (case aR => exact (Kd.C_below (Kd.C_below HA.out HB3.out) (by repeat (first | exact HB4.out | apply below_alloc | apply pw_below_drewN | apply below_drew)))); (case aB => exact (by repeat (first | exact HB4.out | apply below_alloc | apply pw_below_drewN | apply below_drew))); (case aF => exact (fun _ _ => trivial)); (case aO => exact (by (with_reducible repeat (first | apply Kd.R_alloc | apply Kd.R_drewN | apply Kd.R_drew)); exact HO4.out)); (case aS => exact (below_size (by repeat (first | exact HB4.out | apply below_alloc | apply pw_below_drewN | apply below_drew)))); (case aL => have := HL.out.1; simp; omega); intro v29 w5 ho hb hg hat; have HO5 := Aside0.mk ho; have HB5 := Aside0.mk hb; clear ho hb hg hat)
    | ((with_reducible refine gate_builtin (b := .append) (xs := #[.tmp 29, .tmp 30]) rfl ?_); at_builtin; refine Kd.R_append_rows (Kd.int .u8) (w0 := w3) w3.heap.size rfl (.tmp 29) (.tmp 30) 22 5 (.int .u8 0) 1 rfl Tryd.underlying22 info5 rfl (by decide) (by omega) v29 ([] ++ a) b _ _ _ (fun _ => True) (fun _ => False) rfl rfl ?aO ?aR (fun _ _ h => h) (fun _ h => h.elim) ?aF ?aB ?aS ?aL ?_; (case aR => exact (Kd.C_below (Kd.C_below HBB.out HB3.out) (by repeat (first | exact HB5.out | apply below_alloc | apply pw_below_drewN | apply below_drew)))); (case aB => exact (by repeat (first | exact HB5.out | apply below_alloc | apply pw_below_drewN | apply below_drew))); (case aF => exact (fun _ _ => trivial)); (case aO => exact (by (with_reducible repeat (first | apply Kd.R_alloc | apply Kd.R_drewN | apply Kd.R_drew)); exact HO5.out)); (case aS => exact (below_size (by repeat (first | exact HB5.out | apply below_alloc | apply pw_below_drewN | apply below_drew)))); (case aL => have := HL.out.1; have := HL.out.2; simp; omega); intro v31 w6 ho hb hg hat; have ho2 := ho; rw [List.nil_append, ← HAB.out] at ho2; obtain ⟨A9, c9, e9⟩ := Kd.R_slice ho2; subst e9; have HO6 := Aside0.mk ho2; have HB6 := Aside0.mk hb; clear ho ho2 hb hg hat)
    | (go_at_call 10; (with_reducible refine (CAB.out _ A9 c9 (Kd.R_reads' HO6.out).2.2 (Kd.R_reads' HO6.out).2.1).mono ?_); rintro e w7 ⟨vg, rfl, hB7, hS7⟩; have HB7 := Aside0.mk (HB6.out.trans (hB7.mono HB6.out.size)); have HSG := Aside0.mk hS7; clear hB7 hS7))
  have HS7 := Aside0.mk (And.intro (HSA3.out.below HB7.out) (HSB.out.below HB7.out))
  have HW7 := Aside0.mk (HB3.out.trans (HB7.out.mono HB3.out.size))
  clear HO4 HO6 HB4 HB6 HO5 HB5 HSA HSA3 HSB CA CB CAB
  cases hda : dec a with
  | error i =>
    have h7 := HS7.out.1
    rw [hda] at h7
    obtain ⟨p, rfl, _, _⟩ := h7
    go_wp2_with fail
    go_ret
    exact ⟨rfl, HW7.out⟩
  | ok cs =>
    have h7 := HS7.out.1
    rw [hda] at h7
    obtain rfl : va = .nilIface := h7
    have hd7 := dec_append a.length a b cs (Nat.le_refl _) hda
    rw [← HAB.out] at hd7
    have hg7 := HSG.out
    rw [hd7] at hg7
    cases hdb : dec b with
    | ok ds =>
      have h8 := HS7.out.2
      rw [hdb] at h8
      obtain rfl : vb = .nilIface := h8
      rw [hdb] at hg7
      obtain rfl : vg = .nilIface := hg7
      go_wp2_with fail
      go_ret
      exact ⟨rfl, HW7.out⟩
    | error i =>
      have h8 := HS7.out.2
      rw [hdb] at h8
      obtain ⟨p, rfl, p0, p1⟩ := h8
      rw [hdb] at hg7
      obtain ⟨q, rfl, q0, q1⟩ := hg7
      have OF := Aside0.mk (show ∀ W5 : World, Below w7.heap.size w7 W5 → Calls Tryd.prog 13 #[.iface 44 (.pointer (some ⟨p, 0, none⟩))] W5 fun e w' => e = .returned (.tuple #[.int .i64 2, .int .i64 (i : Int)]) ∧ Below W5.heap.size W5 w' from
        fun W5 h5 => Err.law_of p i 2 (by decide) (by decide) W5 (GL_at (GL_at HG.out HW7.out) h5) (pw_cell_below h5 p0) (pw_cell_below h5 p1))
      have OG := Aside0.mk (show ∀ W5 : World, Below w7.heap.size w7 W5 → Calls Tryd.prog 13 #[.iface 44 (.pointer (some ⟨q, 0, none⟩))] W5 fun e w' => e = .returned (.tuple #[.int .i64 2, .int .i64 ((a.length + i : Nat) : Int)]) ∧ Below W5.heap.size W5 w' from
        fun W5 h5 => Err.law_of q ((a.length + i : Nat) : Int) 2 (by decide) (by decide) W5 (GL_at (GL_at HG.out HW7.out) h5) (pw_cell_below h5 q0) (pw_cell_below h5 q1))
      have hil : i ≤ 1000 := by have := dec_err b.length b i (Nat.le_refl _) hdb; have := HL.out.2; omega
      have e12 : (((a.length : Int) + (i : Int)) == wrap64 ((i : Int) + (a.length : Int))) = true := by rw [beq_iff_eq]; have := HL.out.1; unfold wrap64; omega
      have e0 := Aside0.mk (Below.refl w7.heap.size w7)
      clear p0 p1 q0 q1
      go_upto_region 11 with (go_at_call 13; (with_reducible refine (OF.out _ e0.out).mono ?_); rintro e w8 ⟨rfl, hB8⟩; have HB8 := Aside0.mk hB8; clear hB8)
      go_wp2_with (go_at_call 13; (with_reducible refine (OG.out _ HB8.out).mono ?_); rintro e w9 ⟨rfl, hB9⟩; have HB9 := Aside0.mk hB9; clear hB9)
      go_ret
      exact ⟨rfl, HW7.out.trans ((HB8.out.trans (HB9.out.mono HB8.out.size)).mono HW7.out.size)⟩
theorem parts (W : World) (hG : GL W) (A : Option Addr) (c : Nat) (a : List Int) (hA : U8.C W A a.length a) (hc : a.length ≤ c) (ba : Bytes a) (B : Option Addr) (d : Nat) (b : List Int) (hB : U8.C W B b.length b) (hd : b.length ≤ d) (bb : Bytes b) :
    Calls Tryd.prog 4 #[.slice A a.length c, .slice B b.length d] W fun e w' => e = .returned (.bool true) ∧ Below W.heap.size W w' := by
  by_cases la : a.length ≤ 500
  · by_cases lb : b.length ≤ 500
    · exact parts_in W hG A c a hA hc ba B d b hB hd bb la lb
    · have HG := Aside0.mk hG
      have g1 : decide ((500 : Int) < (a.length : Int)) = false := decide_eq_false (by omega)
      have g2 : decide ((500 : Int) < (b.length : Int)) = true := decide_eq_true (by omega)
      clear hG hA hB ba bb la lb
      go_enter Tryd.func4, Tryd.ntmps4
      go_wp2_with (go_at_call 8; (refine (grommetlaw02_up.calls true _ HG.out rfl).mono ?_); rintro e w1 ⟨rfl, hB1⟩; have HB1 := Aside0.mk hB1; clear hB1)
      go_ret
      exact ⟨rfl, HB1.out⟩
  · have HG := Aside0.mk hG
    have g1 : decide ((500 : Int) < (a.length : Int)) = true := decide_eq_true (by omega)
    clear hG hA hB ba bb la
    go_enter Tryd.func4, Tryd.ntmps4
    go_wp2_with (go_at_call 8; (refine (grommetlaw02_up.calls true _ HG.out rfl).mono ?_); rintro e w1 ⟨rfl, hB1⟩; have HB1 := Aside0.mk hB1; clear hB1)
    go_ret
    exact ⟨rfl, HB1.out⟩
end Go.Proofs.YtagaihiemomelaaDoor.Nm
