/- text.Bytes by contract. -/
import Derived.Test.YtjenbegobpfclaaDoorRTextBytesx4
set_option linter.unusedVariables false
set_option linter.unusedSimpArgs false
namespace Go.Proofs.YtjenbegobpfclaaDoor.Tx
open Go.RowKit Go.Proofs.YtjenbegobpfclaaDoor.Man Go.Proofs.YtjenbegobpfclaaDoorW.PrintWords Go.Proofs.YtjenbegobpfclaaDoorW.PrintLast Go.Proofs.YtjenbegobpfclaaDoorW.PrintMore Go.Proofs.YtjenbegobpfclaaDoor.RTextBytes
theorem inf5 : (Tryd.prog.info? 5).map (fun i => (i.zero, i.size, i.bytes)) = some (some (.int .u8 0), 1, 1) := by kernel_rfl
/-- text.Bytes in plain words: an error's place, or the bytes. -/
def bysL : Nat → Nat → ByteArray → Int → List Int → Option (Except Int (List Int))
  | 0, _, _, _, _ => none
  | k + 1, K, s, i, out =>
    if i < (s.size : Int) then
      (if bt s i = 92 then
        (text_escape.f K (s.extract (i + 1).toNat s.size)).bind fun p =>
          if p.2 = 0 then some (.error i)
          else if 0 ≤ p.2 ∧ p.2 ≤ 1000000 ∧ out.length + p.1.length ≤ 1000000000 then bysL k K s (i + p.2 + 1) (out ++ p.1) else none
      else if out.length ≤ 1000000000 then bysL k K s (i + 1) (out ++ [bt s i]) else none)
    else some (.ok out)
def Res (W w' : World) (e : Ending) : Except Int (List Int) → Prop
  | .ok out => ∃ A c, e = .returned (.tuple #[.slice A out.length c, .nilIface]) ∧ (Kd.int .u8).R 5 w' W.heap.size (fun _ => True) (.slice A out.length c) out ∧ Below W.heap.size W w'
  | .error at_ => ∃ p, e = .returned (.tuple #[.slice none 0 0, .iface 36 (.pointer (some ⟨p, 0, none⟩))]) ∧ w'.cell? ⟨p, 0, none⟩ = some (.int .i64 at_) ∧ w'.cell? ⟨p, 1, none⟩ = some (.iface 31 (.int .i64 2)) ∧ W.heap.size ≤ p ∧ Below W.heap.size W w'
theorem cell_new (w : World) (c : Array Value) (t : TypeId) (i : Nat) (u : Value) (h : c[i]? = some u) : (w.alloc (.cells c t)).cell? ⟨w.heap.size, i, none⟩ = some u := by rw [World.cell?_alloc_new]; exact h
set_option maxHeartbeats 4000000 in
theorem bytes_calls (W : World) (s : ByteArray) (hs : s.size ≤ 1000000) (K : Nat) (r : Except Int (List Int)) (h : bysL (s.size + 1) K s 0 [] = some r) : Calls Tryd.prog 5 #[.string s] W fun e w' => Res W w' e r := by
  have HS := Aside0.mk hs
  have H0 := Aside0.mk h
  clear h hs
  go_enter Tryd.func5, Tryd.ntmps5
  go_wp2_with fail
  go_loopg [4, 5] (s.size + 1) (fun kq v4 v5 w' => ∃ (i : Int) (out : List Int) (A : Option Addr) (c : Nat), v4 = .slice A out.length c ∧ v5 = .int .i64 i ∧ 0 ≤ i ∧ i ≤ 3000000 ∧ Aside0 (bysL kq K s i out = some r) ∧ Aside0 ((Kd.int .u8).R 5 w' W.heap.size (fun _ => True) (.slice A out.length c) out) ∧ Aside0 (Below W.heap.size W w'))
  case atStart => exact ⟨0, [], none, 0, rfl, rfl, by omega, by omega, H0, ⟨Kd.R_nil _ _ _ _ _⟩, ⟨Below.refl _ _⟩⟩
  case round =>
    obtain ⟨i, out, A, c, rfl, rfl, h0, h1, HQ, HO, HB⟩ := hrel
    clear H0
    cases gk with
    | zero => exact absurd HQ.out (by simp [bysL])
    | succ kr =>
      have HQ' := HQ.out
      rw [bysL] at HQ'
      clear HQ
      have hw1 : IntKind.i64.wrap (i + 1) = i + 1 := by rw [IntKind.wrap_i64]; omega
      by_cases hlt : i < (s.size : Int)
      · rw [if_pos hlt] at HQ'
        have p5 : (0 ≤ i) = True := eq_true h0
        have q5 : (i < (s.size : Int)) = True := eq_true hlt
        have hx5 := bt_at s i
        have P5 := Aside0.mk (show 0 ≤ i ∧ i + 1 ≤ (s.size : Int) ∧ i + 1 ≤ 1000000 by have := HS.out; omega)
        by_cases h92 : bt s i = 92
        · rw [if_pos h92] at HQ'
          have e1 : (bt s i != 92) = false := bne_eq_false_iff_eq.mpr h92
          have p6 : (0 ≤ i + 1) = True := eq_true (by omega)
          have q6 : (i + 1 ≤ (s.size : Int)) = True := eq_true (by omega)
          have q7 : (i + 1).toNat = i.toNat + 1 := by omega
          obtain ⟨⟨b, n⟩, hesc, HQ'⟩ := Option.bind_eq_some_iff.1 HQ'
          simp only at HQ'
          rw [q7] at hesc
          have CE := Aside0.mk (fun W5 : World => text_escape.calls K (s.extract (i.toNat + 1) s.size) b n W5 hesc)
          clear hesc
          rw [h92] at hx5
          clear h92
          by_cases hn : n = 0
          · rw [if_pos hn] at HQ'
            subst hn
            obtain rfl : Except.error i = r := Option.some.inj HQ'
            clear HQ'
            go_wp2_with (go_at_call 9; (refine (CE.out _).mono ?_); rintro e w2 ⟨v2, rfl, hR2, hB2⟩; have HB2 := Aside0.mk (HB.out.trans (hB2.mono HB.out.size)); clear hR2 hB2)
            go_ret2
            refine ⟨w2.heap.size, rfl, ?_, ?_, HB2.out.size, below_alloc HB2.out _⟩
            · exact cell_new _ _ _ _ _ rfl
            · exact cell_new _ _ _ _ _ rfl
          · rw [if_neg hn] at HQ'
            split at HQ'
            · rename_i hb
              have Hb := Aside0.mk hb
              have HR := Aside0.mk HQ'
              have en : (n == 0) = false := beq_eq_false_iff_ne.mpr hn
              have hw2 : IntKind.i64.wrap (i + n) = i + n := by rw [IntKind.wrap_i64]; omega
              have hw3 : IntKind.i64.wrap (i + n + 1) = i + n + 1 := by rw [IntKind.wrap_i64]; omega
              have Q := Aside0.mk (show 0 ≤ i + n + 1 ∧ i + n + 1 ≤ 3000000 by have := P5.out; omega)
              clear HQ' hb hn h0 h1 hlt
              go_upto_region 8 with (go_at_call 9; (refine (CE.out _).mono ?_); rintro e w2 ⟨v2, rfl, hR2, hB2⟩; have HO2 := Aside0.mk (Kd.R_below HO.out hB2); have HE2 := Aside0.mk hR2; have HB2 := Aside0.mk (HB.out.trans (hB2.mono HB.out.size)); have HS2 := Aside0.mk hB2.size; clear hR2 hB2)
              obtain ⟨A2, c2, rfl⟩ := Kd.R_slice HE2.out
              go_wp2_with ((with_reducible refine gate_builtin (b := .append) (xs := #[.tmp 39, .tmp 40]) rfl ?_); at_builtin; refine Kd.R_append_rows (Kd.int .u8) (Rr := (Kd.int .u8).K w2) (w0 := W) W.heap.size rfl (.tmp 39) (.tmp 40) 23 5 (.int .u8 0) 1 rfl Tryd.underlying23 inf5 rfl (Nat.zero_lt_succ _) (by omega) (.slice A out.length c) out b _ _ _ (fun _ => True) (fun _ => False) rfl rfl ?aO ?aR ?aK (fun _ h => h.elim) (fun _ _ => trivial) ?aB ?aS ?aL ?_; (case aO => exact HO2.out); (case aR => exact (Kd.R_reads' HE2.out).2.2); (case aK => exact (fun _ _ h => h)); (case aB => exact HB2.out); (case aS => exact HB2.out.size); (case aL => have := Hb.out; omega); intro v3 w3 hR3 hB3 hg3 hat3; obtain ⟨A3, c3, e3⟩ := Kd.R_slice hR3; subst e3; have HO3 := Aside0.mk hR3; have HB3 := Aside0.mk hB3; clear hR3 hB3 hg3 hat3)
              go_roundg kr
              case measure => omega
              case rel => exact ⟨i + n + 1, out ++ b, A3, c3, (by first | rfl | (simp; done)), (by first | rfl | (rw [← hw3]; rfl) | (simp; done) | (simp [*]; done)), Q.out.1, Q.out.2, HR, HO3, HB3⟩
            · cases HQ'
        · rw [if_neg h92] at HQ'
          have e1 : (bt s i != 92) = true := bne_iff_ne.mpr h92
          split at HQ'
          · rename_i hb
            have Hb := Aside0.mk hb
            obtain ⟨x, hx⟩ : ∃ x, bt s i = x := ⟨_, rfl⟩
            rw [hx] at hx5 e1 HQ'
            have HR := Aside0.mk HQ'
            clear HQ' hb h92 hx h0 h1 hlt
            go_wp2_with ((with_reducible refine gate_builtin (b := .append) (xs := #[.tmp 18, .tmp 22]) rfl ?_); at_builtin; refine Kd.R_append (Kd.int .u8) (w0 := W) W.heap.size rfl (.tmp 18) (.tmp 22) 23 5 (.int .u8 0) 1 rfl Tryd.underlying23 inf5 rfl (Nat.zero_lt_succ _) (by omega) (.slice A out.length c) out x [.int .u8 x] (fun _ => True) (fun _ => False) rfl rfl ?aP (fun _ hk => hk.elim) (fun _ _ => trivial) ?aO ?aB ?aS ?aL ?_; (case aP => exact rfl); (case aO => exact HO.out); (case aB => exact HB.out); (case aS => exact HB.out.size); (case aL => have := Hb.out; omega); intro v3 w3 hR3 hB3 hg3 hat3; obtain ⟨A3, c3, e3⟩ := Kd.R_slice hR3; subst e3; have HO3 := Aside0.mk hR3; have HB3 := Aside0.mk hB3; clear hR3 hB3 hg3 hat3)
            go_roundg kr
            case measure => omega
            case rel => exact ⟨i + 1, out ++ [x], A3, c3, (by first | rfl | (simp; done)), (by first | rfl | (rw [← hw1]; rfl) | (simp; done) | (simp [*]; done)), by have := P5.out; omega, by have := P5.out; omega, HR, HO3, HB3⟩
          · cases HQ'
      · rw [if_neg hlt] at HQ'
        have q5 : (i < (s.size : Int)) = False := eq_false hlt
        obtain rfl : Except.ok out = r := Option.some.inj HQ'
        clear HQ' hlt
        go_wp2_with fail
        go_ret2
        exact ⟨A, c, rfl, HO.out, HB.out⟩
end Go.Proofs.YtjenbegobpfclaaDoor.Tx
