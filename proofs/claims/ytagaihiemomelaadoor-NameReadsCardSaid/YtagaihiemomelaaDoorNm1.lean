/- name.Chars and name.Check over any bytes, by their contracts. -/
import Derived.Test.YtagaihiemomelaaDoorNm0
import Derived.Test.YtagaihiemomelaaDoorErr2
namespace Go.Proofs.YtagaihiemomelaaDoor.Nm
open Go.RowKit Go.Proofs.YtagaihiemomelaaDoorW.PrintWords Go.Proofs.YtagaihiemomelaaDoorW.PrintLast Go.Proofs.YtagaihiemomelaaDoorW.PrintMore Go.Proofs.YtagaihiemomelaaDoor.RNameReads
set_option linter.unusedVariables false
set_option linter.unusedSimpArgs false
abbrev U8 := Kd.int .u8
abbrev I64 := Kd.int .i64
/-- The characters, from a place on, behind those that there are; or the place where there is none. -/
def chs : Nat → List Int → Nat → List Int → Except Nat (List Int)
  | 0, _, _, out => .ok out
  | f + 1, l, at_, out => if l.length ≤ at_ then .ok out else if (rdF (l.drop at_)).2 = 0 then .error at_ else chs f l (at_ + (rdF (l.drop at_)).2.toNat) (out ++ [(rdF (l.drop at_)).1])
def chars (l : List Int) : Except Nat (List Int) := chs (l.length + 1) l 0 []
theorem go_n (n : Int) : ∀ (r : List Int) (c : Int), (go n c r).2 = 0 ∨ (go n c r).2 = n
  | [], c => by unfold go fin; split <;> simp
  | x :: r, c => by
    unfold go
    split
    · exact go_n n r _
    · exact Or.inl rfl
theorem rdF_n (l : List Int) : 0 ≤ (rdF l).2 ∧ (rdF l).2 ≤ 4 ∧ (rdF l).2 ≤ l.length := by
  cases l with
  | nil => simp [rdF]
  | cons b t =>
    have hn := lead_n b
    simp only [rdF]
    by_cases h : (lead b).1 = 0 ∨ ((t.length + 1 : Nat) : Int) < (lead b).1
    · rw [if_pos h]; refine ⟨?_, ?_, ?_⟩ <;> simp <;> omega
    · rw [if_neg h]
      have h1 : ¬ ((t.length + 1 : Nat) : Int) < (lead b).1 := fun e => h (Or.inr e)
      rcases go_n (lead b).1 (t.take ((lead b).1.toNat - 1)) (lead b).2 with e | e <;> rw [e]
      · refine ⟨?_, ?_, ?_⟩ <;> simp <;> omega
      · refine ⟨?_, ?_, ?_⟩ <;> simp at h1 ⊢ <;> omega
theorem cell_new (w : World) (cs : Array Value) (t : TypeId) (g i : Nat) (h : g = w.heap.size) : (w.alloc (.cells cs t)).cell? ⟨g, i, none⟩ = cs[i]? := cell_of_row _ g i cs t (0, 0) (by subst h; exact heap_alloc_new w _)
def Res (W : World) (r : Except Nat (List Int)) (e : Ending) (w' : World) : Prop :=
  match r with
  | .ok cs => ∃ A c, e = .returned (.tuple #[.slice A cs.length c, .nilIface]) ∧ I64.R 3 w' W.heap.size (fun _ => True) (.slice A cs.length c) cs ∧ Below W.heap.size W w'
  | .error at_ => ∃ p, e = .returned (.tuple #[.slice none 0 0, .iface 44 (.pointer (some ⟨p, 0, none⟩))]) ∧ w'.cell? ⟨p, 0, none⟩ = some (.int .i64 (at_ : Int)) ∧ w'.cell? ⟨p, 1, none⟩ = some (.iface 33 (.int .i64 2)) ∧ W.heap.size ≤ p ∧ Below W.heap.size W w'
set_option maxHeartbeats 4000000 in
theorem chars_calls (W : World) (A : Option Addr) (c : Nat) (l : List Int) (h : U8.C W A l.length l) (hc : l.length ≤ c) (hb : Bytes l) (hl : l.length ≤ 100000) :
    Calls Tryd.prog 9 #[.slice A l.length c] W fun e w' => Res W (chars l) e w' := by
  have H := Aside0.mk h
  have HBY := Aside0.mk hb
  clear h hb
  go_enter Tryd.func9, Tryd.ntmps9
  go_wp2_with fail
  go_loopg [4, 5] (l.length + 1) (fun kq v4 v5 w' => ∃ (at_ : Nat) (out : List Int) (A' : Option Addr) (c' : Nat), v4 = .slice A' out.length c' ∧ v5 = .int .i64 (at_ : Int) ∧ at_ ≤ l.length ∧ l.length + 1 ≤ kq + at_ ∧ out.length ≤ at_ ∧ Aside0 (chs kq l at_ out = chars l) ∧ Aside0 (I64.R 3 w' W.heap.size (fun _ => True) (.slice A' out.length c') out) ∧ Aside0 (Below W.heap.size W w'))
  case atStart => exact ⟨0, [], none, 0, rfl, rfl, by omega, by omega, by simp, ⟨rfl⟩, ⟨Kd.R_nil _ _ _ _ _⟩, ⟨Below.refl _ _⟩⟩
  case round =>
    obtain ⟨at_, out, A', c', rfl, rfl, h1, h2, h3, HQ, HO, HB⟩ := hrel
    cases gk with
    | zero => exact absurd h2 (by omega)
    | succ k2 =>
      have HQ' := HQ.out
      rw [chs] at HQ'
      by_cases hlt : at_ < l.length
      · rw [if_neg (by omega)] at HQ'
        have l1 : ((at_ : Int) < (l.length : Int)) = True := eq_true (by omega)
        obtain ⟨i5, hi5, _, hsz5, _⟩ := info_parts info5
        obtain ⟨AD, hcut, hAD, hCD⟩ := print_drop_of (P := Tryd.prog) (Value.int .u8) (0 : Int) 22 5 .i64 Tryd.underlying22 hi5 hsz5 A c l (at_ : Int) (by omega) (by omega) hc
        simp only [Int.toNat_natCast] at hcut hAD hCD
        obtain ⟨LD, hLD⟩ : ∃ L, L = l.drop at_ := ⟨_, rfl⟩
        simp only [← hLD] at hcut hAD hCD HQ'
        have hRD : U8.C W AD LD.length LD := Kd.C_of_reads (h1 := fun _ => rfl) (hAD _ (Kd.reads_of_C H.out))
        have hne : 0 < LD.length := by rw [hLD, List.length_drop]; omega
        have hbD : Bytes LD := fun x hx => HBY.out x (by rw [hLD] at hx; exact List.mem_of_mem_drop hx)
        have hrf := read_f LD hbD hne
        have hn := rdF_n LD
        have hlD : LD.length = l.length - at_ := by rw [hLD, List.length_drop]
        obtain ⟨r1, r2⟩ : ∃ p : Int × Int, p = rdF LD := ⟨_, rfl⟩
        obtain ⟨a1, hr1⟩ : ∃ x, x = (rdF LD).1 := ⟨_, rfl⟩
        obtain ⟨a2, hr2⟩ : ∃ x, x = (rdF LD).2 := ⟨_, rfl⟩
        have hp : rdF LD = (a1, a2) := by rw [hr1, hr2]
        rw [hp] at hrf HQ' hn
        simp only at HQ' hn
        have RC := Aside0.mk (show ∀ W5 : World, Below W.heap.size W W5 → Calls Tryd.prog 17 #[.slice AD LD.length (c - at_)] W5 fun e w' => e = .returned (.tuple #[.int .i64 a1, .int .i64 a2]) ∧ Drawn0 W5 w' from
          fun W5 h5 => name_read.calls 9 AD (c - at_) LD a1 a2 W5 (Kd.C_below hRD h5) hCD hrf)
        have HN := Aside0.mk (And.intro hn hlD)
        clear hLD hAD hCD hRD hne hbD hrf hr1 hr2 hp hn hlD hi5 hsz5 r1 r2
        by_cases z : a2 = 0
        · subst z
          rw [if_pos rfl] at HQ'
          have HQ2 := Aside0.mk HQ'
          clear HQ' HQ
          go_wp2_with (go_at_call 17; (with_reducible refine (RC.out _ HB.out).mono ?_); rintro e w5 ⟨rfl, ⟨nd, rfl⟩⟩)
          go_ret2
          rw [← HQ2.out]
          refine ⟨wr.heap.size, rfl, ?_, ?_, HB.out.size, ?_⟩
          · exact cell_new _ _ _ _ _ (by first | rfl | simp)
          · exact cell_new _ _ _ _ _ (by first | rfl | simp)
          · exact (below_alloc (pw_below_drewN HB.out _) _)
        · rw [if_neg z] at HQ'
          have HQ2 := Aside0.mk HQ'
          have z1 : (a2 == 0) = false := beq_eq_false_iff_ne.mpr z
          clear HQ' HQ
          have e5 : wrap64 ((at_ : Int) + a2) = ((at_ + a2.toNat : Nat) : Int) := by have := HN.out; unfold wrap64; omega
          go_wp2_with (first
            | (go_at_call 17; (with_reducible refine (RC.out _ HB.out).mono ?_); rintro e w5 ⟨rfl, ⟨nd, rfl⟩⟩)
            | ((with_reducible refine gate_builtin (b := .append) (xs := #[.tmp 26, .tmp 28]) rfl ?_); at_builtin; refine Kd.R_append (Kd.int .i64) (w0 := W) W.heap.size rfl (.tmp 26) (.tmp 28) 24 3 (.int .i64 0) 8 rfl Tryd.underlying24 info3 rfl (by decide) (by omega) (.slice A' out.length c') out a1 [.int .i64 a1] (fun _ => True) (fun _ => False) rfl rfl ?aP (fun _ hk => hk.elim) ?aF ?aO ?aB ?aS ?aL ?_; (case aP => exact rfl); (case aB => exact (by repeat (first | exact HB.out | apply below_alloc | apply pw_below_drewN | apply below_drew))); (case aF => exact (fun _ _ => trivial)); (case aO => exact (by (with_reducible repeat (first | apply Kd.R_alloc | apply Kd.R_drewN | apply Kd.R_drew)); exact HO.out)); (case aS => exact (below_size (by repeat (first | exact HB.out | apply below_alloc | apply pw_below_drewN | apply below_drew)))); (case aL => omega); intro v138 w8 ho hb hg hat; have HO8 := Aside0.mk ho; have HB8 := Aside0.mk hb; clear ho hb hg hat))
          go_roundg k2
          case measure => omega
          case rel =>
            obtain ⟨A8, c8, rfl⟩ := Kd.R_slice HO8.out
            exact ⟨at_ + a2.toNat, out ++ [a1], A8, c8, rfl, by rw [e5], by have := HN.out; omega, by have := HN.out; omega, by have := HN.out; simp; omega, HQ2, HO8, ⟨by repeat (first | exact HB8.out | apply below_alloc | apply pw_below_drewN | apply below_drew)⟩⟩
      · rw [if_pos (by omega)] at HQ'
        have HQ2 := Aside0.mk HQ'
        have l1 : ((at_ : Int) < (l.length : Int)) = False := eq_false (by omega)
        clear HQ' HQ
        go_wp2_with fail
        go_ret2
        rw [← HQ2.out]
        exact ⟨A', c', rfl, HO.out, HB.out⟩
def ResE (W : World) (r : Except Nat (List Int)) (e : Ending) (w' : World) : Prop :=
  match r with
  | .ok cs => e = .returned .nilIface ∧ Below W.heap.size W w'
  | .error at_ => ∃ p, e = .returned (.iface 44 (.pointer (some ⟨p, 0, none⟩))) ∧ w'.cell? ⟨p, 0, none⟩ = some (.int .i64 (at_ : Int)) ∧ w'.cell? ⟨p, 1, none⟩ = some (.iface 33 (.int .i64 2)) ∧ W.heap.size ≤ p ∧ Below W.heap.size W w'
theorem check_calls (W : World) (A : Option Addr) (c : Nat) (l : List Int) (h : U8.C W A l.length l) (hc : l.length ≤ c) (hb : Bytes l) (hl : l.length ≤ 100000) :
    Calls Tryd.prog 10 #[.slice A l.length c] W fun e w' => ResE W (chars l) e w' := by
  have HH := Aside0.mk (chars_calls W A c l h hc hb hl)
  clear h hc hb hl
  cases hr : chars l with
  | ok cs =>
    rw [hr] at HH
    go_enter Tryd.func10, Tryd.ntmps10
    go_wp2_with (go_at_call 9; (with_reducible refine HH.out.mono ?_); rintro e w5 ⟨A5, c5, rfl, hR, hB⟩; have HB := Aside0.mk hB; clear hR hB)
    go_ret
    exact ⟨rfl, HB.out⟩
  | error at_ =>
    rw [hr] at HH
    go_enter Tryd.func10, Tryd.ntmps10
    go_wp2_with (go_at_call 9; (with_reducible refine HH.out.mono ?_); rintro e w5 ⟨p, rfl, h0, h1, h2, hB⟩; have HB := Aside0.mk (And.intro h0 (And.intro h1 (And.intro h2 hB))); clear h0 h1 h2 hB)
    go_ret
    exact ⟨p, rfl, HB.out.1, HB.out.2.1, HB.out.2.2.1, HB.out.2.2.2⟩
end Go.Proofs.YtagaihiemomelaaDoor.Nm
