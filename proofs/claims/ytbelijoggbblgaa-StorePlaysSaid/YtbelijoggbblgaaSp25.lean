import Derived.Test.YtbelijoggbblgaaSp24
import Derived.BigQuiet
import Derived.StillTailTactics
namespace Go.Proofs.Ytbelijoggbblgaa.Sp
open Go.RowKit Go.Proofs.YtbelijoggbblgaaW.PrintWords Go.Proofs.YtbelijoggbblgaaW.PrintLast Go.Proofs.YtbelijoggbblgaaW.PrintMore Go.Proofs.Ytbelijoggbblgaa.PStorePlays Go.Proofs.Ytbelijoggbblgaa.St
set_option linter.unusedVariables false
set_option linter.unusedSimpArgs false
theorem quiet0 {f : FuncId} {args : Array Value} {w : World} {n : Nat} {v : Value} (h : Calls Try.prog f args (w.drewN n) fun e w' => e = .returned v ∧ Drawn0 (w.drewN n) w') : Calls Try.prog f args (w.drewN n) fun e w'' => e = .returned v ∧ ∃ m, w'' = w.drewN m :=
  Calls.quiet_of (h.mono fun _ _ ⟨he, hd⟩ => ⟨he, hd.out⟩)
set_option maxHeartbeats 16000000 in
set_option maxRecDepth 200000 in
theorem alike {w W0 : World} {base s m : Nat} {F : List S32} {L : List (List Int × Int)} {N : List (Nat × Int)} {G : List S41} (h : Pl w W0 base s m F L N G) (hW : Below W0.heap.size W0 w) (hlF : F.length ≤ 90) (hlL : L.length ≤ 90) (hlN : N.length ≤ 90) (hlG : G.length ≤ 90) :
    Calls Try.prog 21 #[.pointer (some ⟨s, 0, none⟩), .pointer (some ⟨m, 0, none⟩)] w fun e w' => e = .returned (.bool true) ∧ Below w.heap.size w w' := by
  obtain ⟨tag, vF, vT, vM, vG, T, M, uF, uT, uX, uM, uG, F', T', M', hS, hM⟩ := h
  have h64 := hS.lb
  have h40 := hS.nb
  have HS := Aside0.mk hS
  have HM := Aside0.mk hM
  have HW := Aside0.mk hW
  have hws : W0.heap.size ≤ w.heap.size := hW.size
  have u0 : ∃ A c, uF = .slice A F.length c := by obtain ⟨A, c, e⟩ := Kd.R_slice hM.md.f; exact ⟨A, c, by rw [e, hM.fl]⟩
  have u1 : ∃ A c, uT = .slice A L.length c := by obtain ⟨A, c, e⟩ := Kd.R_slice hM.md.t; exact ⟨A, c, by rw [e, hM.tl]⟩
  have u3 : ∃ A c, uM = .slice A N.length c := by obtain ⟨A, c, e⟩ := Kd.R_slice hM.md.m; exact ⟨A, c, by rw [e, hM.ml]⟩
  have u4 : ∃ A c, uG = .slice A G.length c := Kd.R_slice hM.md.g
  obtain ⟨AF, cF, rfl⟩ := u0
  obtain ⟨AT, cT, rfl⟩ := u1
  obtain ⟨AM, cM, rfl⟩ := u3
  obtain ⟨AG, cG, rfl⟩ := u4
  clear hS hM hW
  go_enter Try.func21, Try.ntmps21
  go_wp2_with fail
  -- the functions
  go_loopg [5] (F.length + 2) (fun kq v5 w' => ∃ i : Int, v5 = .int .i64 i ∧ -1 ≤ i ∧ i + kq = F.length + 1 ∧ Aside0 (Below w.heap.size w w'))
  case atStart => exact ⟨-1, rfl, by omega, by omega, ⟨Below.refl _ _⟩⟩
  case round =>
    obtain ⟨i, rfl, hi1, hi2, hB⟩ := hrel
    have p0 : wr.cell? ⟨m, 0, none⟩ = some (.slice AF F.length cF) := (HM.out.below hB.out).md.row.cell 0
    cases gk with
    | succ k2 =>
      have dle : decide (i ≤ (F.length : Int)) = true := decide_eq_true (by omega)
      have hw1 : IntKind.i64.wrap (i + 1) = i + 1 := by rw [IntKind.wrap_i64]; omega
      by_cases g : 0 ≤ i ∧ i < F.length
      · obtain ⟨k, rfl⟩ := Int.eq_ofNat_of_zero_le g.1
        have hk : k < F.length := by omega
        obtain ⟨x, hx⟩ : ∃ x, F[k]? = some x := ⟨_, List.getElem?_eq_getElem hk⟩
        obtain ⟨ad, cF2, A, c, B, d, e1, q0, q1, q2, q3, q4, hA, lA, hBB, lB, kA, kB⟩ := fun_at (HM.out.below hB.out) (HW.out.trans (below_mono hB.out hws)) k hk x hx
        injection e1 with e1 e2 e3
        subst e1
        subst e3
        clear e2
        have CF := Aside0.mk (sh_func_in (HS.out.below hB.out) k hk (by omega) x hx kA kB)
        have CS := Aside0.mk (fun (W : World) (hb : Below wr.heap.size wr W) (A1 : Option Addr) (c1 : Nat) (A2 : Option Addr) (c2 : Nat) (h1 : I64.C W A1 x.f0.f0.length x.f0.f0) (l1 : x.f0.f0.length ≤ c1) (h2 : I64.C W A2 x.f0.f1.length x.f0.f1) (l2 : x.f0.f1.length ≤ c2) => grommetlaw16_sameCode.calls 1001 A1 c1 x.f0.f0 A2 c2 x.f0.f1 x.f1 x.f2 x.f3 A c x.f0.f0 B d x.f0.f1 x.f1 x.f2 x.f3 true W h1 l1 h2 l2 (Kd.C_below hA hb) lA (Kd.C_below hBB hb) lB (same_f x.f0.f0 x.f0.f1 x.f1 x.f2 x.f3 (by omega) (by omega)))
        have dlt : decide ((k : Int) < (F.length : Int)) = true := decide_eq_true (by omega)
        have d0 : decide ((0 : Int) ≤ (k : Int)) = true := decide_eq_true (by omega)
        have j0 : (0 : Int) ≤ (k : Int) := by omega
        have j1 : (k : Int) < (F.length : Int) := by omega
        clear hA hBB hx
        go_upto_region 5 with (go_at_call 12; (refine CF.out.mono ?_); rintro e w1 ⟨A1, c1, A2, c2, rfl, hC1, hB1⟩; have HC1 := Aside0.mk hC1; have HB1 := Aside0.mk hB1; clear hC1 hB1)
        obtain ⟨w2, hw2⟩ : ∃ w2, w2 = w1.alloc (.cells #[.slice A1 x.f0.f0.length c1, .slice A2 x.f0.f1.length c2, .int .i64 x.f1, .int .i64 x.f2, .int .u64 x.f3] 32) := ⟨_, rfl⟩
        have hr2 : Row w2 w1.heap.size 32 #[.slice A1 x.f0.f0.length c1, .slice A2 x.f0.f1.length c2, .int .i64 x.f1, .int .i64 x.f2, .int .u64 x.f3] := by rw [hw2]; exact Row.made _ _ _ rfl
        have hB12 : Below w1.heap.size w1 w2 := by rw [hw2]; exact below_alloc (Below.refl _ _) _
        rw [← hw2]
        clear hw2
        have hB2 := HB1.out.trans (below_mono hB12 HB1.out.size)
        have P0 := pw_cell_below hB2 p0
        have Q0 := pw_cell_below hB2 q0
        have Q1 := pw_cell_below hB2 q1
        have Q2 := pw_cell_below hB2 q2
        have Q3 := pw_cell_below hB2 q3
        have Q4 := pw_cell_below hB2 q4
        have T0 : w2.cell? ⟨w1.heap.size, 0, none⟩ = some (.slice A1 x.f0.f0.length c1) := hr2.cell 0
        have T1 : w2.cell? ⟨w1.heap.size, 1, none⟩ = some (.slice A2 x.f0.f1.length c2) := hr2.cell 1
        have T2 : w2.cell? ⟨w1.heap.size, 2, none⟩ = some (.int .i64 x.f1) := hr2.cell 2
        have T3 : w2.cell? ⟨w1.heap.size, 3, none⟩ = some (.int .i64 x.f2) := hr2.cell 3
        have T4 : w2.cell? ⟨w1.heap.size, 4, none⟩ = some (.int .u64 x.f3) := hr2.cell 4
        have CS2 := Aside0.mk (CS.out w2.drew hB2.drew A1 c1 A2 c2 (Kd.C_below (Kd.C_below HC1.out.1 hB12) (Below.refl _ w2).drew) HC1.out.2.1 (Kd.C_below (Kd.C_below HC1.out.2.2.1 hB12) (Below.refl _ w2).drew) HC1.out.2.2.2)
        have HB2 := Aside0.mk hB2
        clear hr2 hB12 hB2 p0 q0 q1 q2 q3 q4 CS CF
        go_upto_region 6 with fail
        go_still_tail 14, (by kernel_rfl)
        change wpList _ _ _ _ _ w2.drew
        go_wp2_with (go_at_call 37; (refine CS2.out.mono ?_); rintro e w3 ⟨rfl, hB3⟩; have HB3 := Aside0.mk hB3; clear hB3)
        go_roundg k2
        case measure => omega
        case rel => exact ⟨(k : Int) + 1, (by first | rfl | (rw [← hw1]; rfl) | (simp; done) | (simp [*]; done)), by omega, by omega, ⟨hB.out.trans (below_mono ((HB2.out.drew).trans (below_mono HB3.out HB2.out.size)) hB.out.size)⟩⟩
      · have CF := Aside0.mk (sh_func_no (HS.out.below hB.out) i g)
        have dz : decide (0 ≤ i) = false ∨ (decide (0 ≤ i) = true ∧ decide (i < (F.length : Int)) = false) := by
          by_cases h0 : 0 ≤ i
          · exact .inr ⟨decide_eq_true h0, decide_eq_false (fun h1 => g ⟨h0, h1⟩)⟩
          · exact .inl (decide_eq_false h0)
        clear g
        go_upto_region 5 with (go_at_call 12; (refine CF.out.mono ?_); rintro e w1 ⟨rfl, hB1⟩; have HB1 := Aside0.mk hB1; clear hB1)
        obtain ⟨w2, hw2⟩ : ∃ w2, w2 = w1.alloc (.cells #[.slice none 0 0, .slice none 0 0, .int .i64 0, .int .i64 0, .int .u64 0] 32) := ⟨_, rfl⟩
        have hB12 : Below w1.heap.size w1 w2 := by rw [hw2]; exact below_alloc (Below.refl _ _) _
        rw [← hw2]
        clear hw2
        have hB2 := HB1.out.trans (below_mono hB12 HB1.out.size)
        have P0 := pw_cell_below hB2 p0
        have HB2 := Aside0.mk hB2
        clear hB2 hB12 p0 CF
        rcases dz with d0 | ⟨d0, d1⟩
        all_goals
          go_upto_region 6 with fail
          go_quiet (fail)
          go_wp2
          go_roundg k2
          case measure => omega
          case rel => exact ⟨i + 1, (by first | rfl | (rw [← hw1]; rfl) | (simp; done) | (simp [*]; done)), by omega, by omega, ⟨hB.out.trans (below_mono (pw_below_drewN HB2.out _) hB.out.size)⟩⟩
    | zero =>
      have dle : decide (i ≤ (F.length : Int)) = false := decide_eq_false (by omega)
      clear hi1 hi2
      go_wp2_with fail
      have HB1 := Aside0.mk hB.out
      clear hB p0 dle
      -- the tables
      go_loopg [9] (L.length + 2) (fun kq v9 w' => ∃ i : Int, v9 = .int .i64 i ∧ -1 ≤ i ∧ i + kq = L.length + 1 ∧ Aside0 (Below w.heap.size w w'))
      case atStart => exact ⟨-1, rfl, by omega, by omega, HB1⟩
      case round =>
        obtain ⟨i, rfl, hi1, hi2, hB⟩ := hrel
        have p1 : wr.cell? ⟨m, 1, none⟩ = some (.slice AT L.length cT) := (HM.out.below hB.out).md.row.cell 1
        have p2 : wr.cell? ⟨m, 2, none⟩ = some uX := (HM.out.below hB.out).md.row.cell 2
        cases gk with
        | succ k2 =>
          have dle : decide (i ≤ (L.length : Int)) = true := decide_eq_true (by omega)
          have hw1 : IntKind.i64.wrap (i + 1) = i + 1 := by rw [IntKind.wrap_i64]; omega
          by_cases g : 0 ≤ i ∧ i < L.length
          · obtain ⟨k, rfl⟩ := Int.eq_ofNat_of_zero_le g.1
            have hk : k < L.length := by omega
            obtain ⟨x, hx⟩ : ∃ x, L[k]? = some x := ⟨_, List.getElem?_eq_getElem hk⟩
            obtain ⟨ad, cT2, A, c, e1, q0, hA, lA, ax, cX, e5, qx⟩ := tab_at (HM.out.below hB.out) k hk x hx
            injection e1 with e1 e2 e3
            subst e1
            subst e3
            subst e5
            clear e2
            have hxl := h64 k x hx
            have CF := Aside0.mk (sh_table_in (HS.out.below hB.out) k hk x hx (by omega))
            have CI := Aside0.mk (fun (W : World) (hb : Below wr.heap.size wr W) (A1 : Option Addr) (c1 : Nat) (h1 : I64.C W A1 x.1.length x.1) (l1 : x.1.length ≤ c1) => ints_calls x.1 (by omega) h1 l1 (Kd.C_below hA hb) lA)
            have CM := Aside0.mk (fun (W : World) (hb : Below wr.heap.size wr W) => sh_most_in ((HS.out.below hB.out).below hb) k hk x hx)
            have dlt : decide ((k : Int) < (L.length : Int)) = true := decide_eq_true (by omega)
            have d0 : decide ((0 : Int) ≤ (k : Int)) = true := decide_eq_true (by omega)
            have j0 : (0 : Int) ≤ (k : Int) := by omega
            have j1 : (k : Int) < (L.length : Int) := by omega
            clear hA hx
            go_upto_region 12 with (go_at_call 13; (refine CF.out.mono ?_); rintro e w1 ⟨A1, c1, rfl, hC1, hB1⟩; have HC1 := Aside0.mk hC1; have HB2 := Aside0.mk hB1; clear hC1 hB1)
            have P1 := pw_cell_below HB2.out p1
            have P2 := pw_cell_below HB2.out p2
            have Q0 := pw_cell_below HB2.out q0
            have QX := pw_cell_below HB2.out qx
            have CI2 := Aside0.mk (fun n : Nat => quiet0 (CI.out (w1.drewN n) (pw_below_drewN HB2.out n) A1 c1 (Kd.C_drewN HC1.out.1 n) HC1.out.2))
            have CM2 := Aside0.mk (fun n : Nat => quiet0 (CM.out (w1.drewN n) (pw_below_drewN HB2.out n)))
            clear p1 p2 q0 qx CF CI CM
            go_upto_region 13 with fail
            go_quiet (first | (go_at_call 14; exact CI2.out _) | (go_at_call 38; exact CM2.out _))
            go_wp2
            go_roundg k2
            case measure => omega
            case rel => exact ⟨(k : Int) + 1, (by first | rfl | (rw [← hw1]; rfl) | (simp; done) | (simp [*]; done)), by omega, by omega, ⟨hB.out.trans (below_mono (pw_below_drewN HB2.out _) hB.out.size)⟩⟩
          · have CF := Aside0.mk (sh_table_no (HS.out.below hB.out) i g)
            have CM := Aside0.mk (fun (W : World) (hb : Below wr.heap.size wr W) => sh_most_no ((HS.out.below hB.out).below hb) i g)
            have dz : decide (0 ≤ i) = false ∨ (decide (0 ≤ i) = true ∧ decide (i < (L.length : Int)) = false) := by
              by_cases h0 : 0 ≤ i
              · exact .inr ⟨decide_eq_true h0, decide_eq_false (fun h1 => g ⟨h0, h1⟩)⟩
              · exact .inl (decide_eq_false h0)
            clear g
            go_upto_region 12 with (go_at_call 13; (refine CF.out.mono ?_); rintro e w1 ⟨rfl, hB1⟩; have HB2 := Aside0.mk hB1; clear hB1)
            have P1 := pw_cell_below HB2.out p1
            have CM2 := Aside0.mk (fun n : Nat => quiet0 (CM.out (w1.drewN n) (pw_below_drewN HB2.out n)))
            clear p1 p2 CF CM
            rcases dz with d0 | ⟨d0, d1⟩
            all_goals
              go_upto_region 13 with fail
              go_quiet ((go_at_call 38; exact CM2.out _))
              go_wp2
              go_roundg k2
              case measure => omega
              case rel => exact ⟨i + 1, (by first | rfl | (rw [← hw1]; rfl) | (simp; done) | (simp [*]; done)), by omega, by omega, ⟨hB.out.trans (below_mono (pw_below_drewN HB2.out _) hB.out.size)⟩⟩
        | zero =>
          have dle : decide (i ≤ (L.length : Int)) = false := decide_eq_false (by omega)
          clear hi1 hi2 p2
          go_wp2_with fail
          have HB1 := Aside0.mk hB.out
          clear hB p1 dle
          -- the memories
          go_loopg [13] (N.length + 2) (fun kq v13 w' => ∃ i : Int, v13 = .int .i64 i ∧ -1 ≤ i ∧ i + kq = N.length + 1 ∧ Aside0 (Below w.heap.size w w'))
          case atStart => exact ⟨-1, rfl, by omega, by omega, HB1⟩
          case round =>
            obtain ⟨i, rfl, hi1, hi2, hB⟩ := hrel
            have p3 : wr.cell? ⟨m, 3, none⟩ = some (.slice AM N.length cM) := (HM.out.below hB.out).md.row.cell 3
            cases gk with
            | succ k2 =>
              have dle : decide (i ≤ (N.length : Int)) = true := decide_eq_true (by omega)
              have hw1 : IntKind.i64.wrap (i + 1) = i + 1 := by rw [IntKind.wrap_i64]; omega
              by_cases g : 0 ≤ i ∧ i < N.length
              · obtain ⟨k, rfl⟩ := Int.eq_ofNat_of_zero_le g.1
                have hk : k < N.length := by omega
                obtain ⟨x, hx⟩ : ∃ x, N[k]? = some x := ⟨_, List.getElem?_eq_getElem hk⟩
                obtain ⟨ad, cM2, g2, A2, c2, e1, q0, hMm2⟩ := mem_at (HM.out.below hB.out) k hk x hx
                injection e1 with e1 e2 e3
                subst e1
                subst e3
                clear e2
                have hxl := h40 k x hx
                obtain ⟨g1, A1, c1, hMm1, hcall⟩ := sh_mem_in (HS.out.below hB.out) k hk x hx
                have CF := Aside0.mk hcall
                obtain ⟨n1, mo⟩ := x
                obtain ⟨xs, hxs⟩ : ∃ xs, xs = List.replicate n1 (0 : Int) := ⟨_, rfl⟩
                simp only at hMm1 hMm2 hxl
                rw [← hxs] at hMm1 hMm2
                have HM1 := Aside0.mk hMm1
                have HM2 := Aside0.mk hMm2
                have dlt : decide ((k : Int) < (N.length : Int)) = true := decide_eq_true (by omega)
                have d0 : decide ((0 : Int) ≤ (k : Int)) = true := decide_eq_true (by omega)
                have j0 : (0 : Int) ≤ (k : Int) := by omega
                have j1 : (k : Int) < (N.length : Int) := by omega
                clear hcall hx hxs hMm1 hMm2
                go_upto_region 19 with (go_at_call 39; (refine CF.out.mono ?_); rintro e w1 ⟨rfl, ⟨nd1, rfl⟩⟩)
                obtain ⟨w2, hw2⟩ : ∃ w2, w2 = wr.drewN nd1 := ⟨_, rfl⟩
                have hB2 : Below wr.heap.size wr w2 := by rw [hw2]; exact pw_below_drewN (Below.refl _ _) _
                rw [← hw2]
                clear hw2
                have P3 := pw_cell_below hB2 p3
                have HB2 := Aside0.mk hB2
                clear hB2 p3
                go_upto_region 20 with fail
                have M1 := HM1.out.below (HB2.out.drew)
                have M2 := HM2.out.below (HB2.out.drew)
                have Q0 := pw_cell_below (HB2.out.drew) q0
                have Q3 := pw_cell_below (Below.refl _ w2).drew P3
                have G0 : w2.drew.cell? ⟨g2, 0, none⟩ = some (.slice A2 n1 c2) := M2.row.cell 0
                have G1 : w2.drew.cell? ⟨g2, 1, none⟩ = some (.int .i64 mo) := M2.row.cell 1
                have J2 := M2.bs.str
                obtain ⟨S0, hS0⟩ : ∃ S0, S0 = strOfNums xs := ⟨_, rfl⟩
                rw [← hS0] at J2
                have CB := Aside0.mk (bytes_calls M1 (by omega))
                have CM2 := Aside0.mk (fun (W : World) (hb : Below w2.drew.heap.size w2.drew W) => Sp.most_calls (M1.below hb).row)
                have HS0 := Aside0.mk hS0
                have HMM2 := Aside0.mk M2
                clear q0 CF M1 M2 hS0 HM1 HM2
                refine start_ (n := 39) (S := (fun w' => w'.cell? ⟨m, 3, none⟩ = some (.slice (some ad) N.length cM) ∧ w'.cell? (ad.add k) = some (.pointer (some ⟨g2, 0, none⟩)) ∧ w'.cell? ⟨g2, 0, none⟩ = some (.slice A2 n1 c2) ∧ w'.cell? ⟨g2, 1, none⟩ = some (.int .i64 mo) ∧ (convert 109 9 (.slice A2 n1 c2)).run Try.prog w' = .ok (.string S0) w')) (ds := []) #[false, false, false, false, false, false, false, false, false, false, false, false, false, false, false, false, false, false, false, false, false, false, false, false, false, false, false, false, false, false, false, false, false, false, false, false, false, false, false] (by kernel_rfl) rfl rfl ⟨Q3, Q0, G0, G1, J2⟩ (fun hHeld => ?_)
                refine pure_ (i := 0) (N := some 154) (v := ?_) (a' := ?_) #[true, false, false, false, false, false, false, false, false, false, false, false, false, false, false, false, false, false, false, false, false, false, false, false, false, false, false, false, false, false, false, false, false, false, false, false, false, false, false] rfl rfl (by kernel_rfl) (fun _ _ _ h => h) (Or.inl ⟨by rfl, ?_⟩) ?_ ?_
                rotate_left
                · intro w'
                  go_simp
                  with_reducible rfl
                rotate_left
                · simp only [Act.put, List.setIfInBounds_toArray, List.set_cons_zero, List.set_cons_succ, i64_w, i32_w]
                  rfl
                refine pure_ (i := 1) (N := some 155) (v := ?_) (a' := ?_) #[true, true, false, false, false, false, false, false, false, false, false, false, false, false, false, false, false, false, false, false, false, false, false, false, false, false, false, false, false, false, false, false, false, false, false, false, false, false, false] rfl rfl (by kernel_rfl) (fun _ _ _ h => h) (Or.inl ⟨by rfl, ?_⟩) ?_ ?_
                rotate_left
                · intro w'
                  go_simp
                  with_reducible rfl
                rotate_left
                · simp only [Act.put, List.setIfInBounds_toArray, List.set_cons_zero, List.set_cons_succ, i64_w, i32_w]
                  rfl
                refine pure_ (i := 2) (N := some 156) (v := ?_) (a' := ?_) #[true, true, true, false, false, false, false, false, false, false, false, false, false, false, false, false, false, false, false, false, false, false, false, false, false, false, false, false, false, false, false, false, false, false, false, false, false, false, false] rfl rfl (by kernel_rfl) (fun _ _ _ h => h) (Or.inl ⟨by rfl, ?_⟩) ?_ ?_
                rotate_left
                · intro w'
                  go_simp
                  with_reducible rfl
                rotate_left
                · simp only [Act.put, List.setIfInBounds_toArray, List.set_cons_zero, List.set_cons_succ, i64_w, i32_w]
                  rfl
                refine pure_ (i := 3) (N := some 157) (v := ?_) (a' := ?_) #[true, true, true, true, false, false, false, false, false, false, false, false, false, false, false, false, false, false, false, false, false, false, false, false, false, false, false, false, false, false, false, false, false, false, false, false, false, false, false] rfl rfl (by kernel_rfl) (fun _ _ _ h => h) (Or.inl ⟨by rfl, ?_⟩) ?_ ?_
                rotate_left
                · intro w'
                  go_simp
                  with_reducible rfl
                rotate_left
                · simp only [Act.put, List.setIfInBounds_toArray, List.set_cons_zero, List.set_cons_succ, i64_w, i32_w]
                  rfl
                refine pure_ (i := 4) (N := some 158) (v := ?_) (a' := ?_) #[true, true, true, true, true, false, false, false, false, false, false, false, false, false, false, false, false, false, false, false, false, false, false, false, false, false, false, false, false, false, false, false, false, false, false, false, false, false, false] rfl rfl (by kernel_rfl) (fun _ _ _ h => h) (Or.inl ⟨by rfl, ?_⟩) ?_ ?_
                rotate_left
                · intro w'
                  go_simp
                  with_reducible rfl
                rotate_left
                · simp only [Act.put, List.setIfInBounds_toArray, List.set_cons_zero, List.set_cons_succ, i64_w, i32_w]
                  rfl
                refine pure_ (i := 5) (N := some 159) (v := ?_) (a' := ?_) #[true, true, true, true, true, true, false, false, false, false, false, false, false, false, false, false, false, false, false, false, false, false, false, false, false, false, false, false, false, false, false, false, false, false, false, false, false, false, false] rfl rfl (by kernel_rfl) (fun _ _ _ h => h) (Or.inl ⟨by rfl, ?_⟩) ?_ ?_
                rotate_left
                · intro w'
                  go_simp
                  with_reducible rfl
                rotate_left
                · simp only [Act.put, List.setIfInBounds_toArray, List.set_cons_zero, List.set_cons_succ, i64_w, i32_w]
                  rfl
                refine pure_ (i := 6) (N := some 160) (v := ?_) (a' := ?_) #[true, true, true, true, true, true, true, false, false, false, false, false, false, false, false, false, false, false, false, false, false, false, false, false, false, false, false, false, false, false, false, false, false, false, false, false, false, false, false] rfl rfl (by kernel_rfl) (fun _ _ _ h => h) (Or.inl ⟨by rfl, ?_⟩) ?_ ?_
                rotate_left
                · intro w'
                  go_simp
                  with_reducible rfl
                rotate_left
                · simp only [Act.put, List.setIfInBounds_toArray, List.set_cons_zero, List.set_cons_succ, i64_w, i32_w]
                  rfl
                refine pure_ (i := 7) (N := some 161) (v := ?_) (a' := ?_) #[true, true, true, true, true, true, true, true, false, false, false, false, false, false, false, false, false, false, false, false, false, false, false, false, false, false, false, false, false, false, false, false, false, false, false, false, false, false, false] rfl rfl (by kernel_rfl) (fun _ _ _ h => h) (Or.inl ⟨by rfl, ?_⟩) ?_ ?_
                rotate_left
                · intro w'
                  go_simp
                  with_reducible rfl
                rotate_left
                · simp only [Act.put, List.setIfInBounds_toArray, List.set_cons_zero, List.set_cons_succ, i64_w, i32_w]
                  rfl
                refine pure_ (i := 10) (N := some 164) (v := ?_) (a' := ?_) #[true, true, true, true, true, true, true, true, false, false, true, false, false, false, false, false, false, false, false, false, false, false, false, false, false, false, false, false, false, false, false, false, false, false, false, false, false, false, false] rfl rfl (by kernel_rfl) (fun _ _ _ h => h) (Or.inl ⟨by rfl, ?_⟩) ?_ ?_
                rotate_left
                · intro w'
                  go_simp
                  with_reducible rfl
                rotate_left
                · simp only [Act.put, List.setIfInBounds_toArray, List.set_cons_zero, List.set_cons_succ, i64_w, i32_w]
                  rfl
                refine pure_ (i := 11) (N := some 165) (v := ?_) (a' := ?_) #[true, true, true, true, true, true, true, true, false, false, true, true, false, false, false, false, false, false, false, false, false, false, false, false, false, false, false, false, false, false, false, false, false, false, false, false, false, false, false] rfl rfl (by kernel_rfl) (fun _ _ _ h => h) (Or.inl ⟨by rfl, ?_⟩) ?_ ?_
                rotate_left
                · intro w'
                  go_simp
                  with_reducible rfl
                rotate_left
                · simp only [Act.put, List.setIfInBounds_toArray, List.set_cons_zero, List.set_cons_succ, i64_w, i32_w]
                  rfl
                refine pure_ (i := 12) (N := some 166) (v := ?_) (a' := ?_) #[true, true, true, true, true, true, true, true, false, false, true, true, true, false, false, false, false, false, false, false, false, false, false, false, false, false, false, false, false, false, false, false, false, false, false, false, false, false, false] rfl rfl (by kernel_rfl) (fun _ _ _ h => h) (Or.inl ⟨by rfl, ?_⟩) ?_ ?_
                rotate_left
                · intro w'
                  go_simp
                  with_reducible rfl
                rotate_left
                · simp only [Act.put, List.setIfInBounds_toArray, List.set_cons_zero, List.set_cons_succ, i64_w, i32_w]
                  rfl
                refine take_ (i := 13) (N := some 167) (v := ?_) (a' := ?_) #[true, true, true, true, true, true, true, true, false, false, true, true, true, true, false, false, false, false, false, false, false, false, false, false, false, false, false, false, false, false, false, false, false, false, false, false, false, false, false] rfl rfl (by kernel_rfl) (fun _ _ _ h => h) (Or.inl ⟨by rfl, ?_⟩) hHeld ?_ ?_
                rotate_left
                · intro w' hS'
                  obtain ⟨s1, s2, s3, s4, s5⟩ := hS'
                  go_simp
                  with_reducible rfl
                rotate_left
                · simp only [Act.put, List.setIfInBounds_toArray, List.set_cons_zero, List.set_cons_succ, i64_w, i32_w]
                  rfl
                refine pure_ (i := 14) (N := some 168) (v := ?_) (a' := ?_) #[true, true, true, true, true, true, true, true, false, false, true, true, true, true, true, false, false, false, false, false, false, false, false, false, false, false, false, false, false, false, false, false, false, false, false, false, false, false, false] rfl rfl (by kernel_rfl) (fun _ _ _ h => h) (Or.inl ⟨by rfl, ?_⟩) ?_ ?_
                rotate_left
                · intro w'
                  go_simp
                  with_reducible rfl
                rotate_left
                · simp only [Act.put, List.setIfInBounds_toArray, List.set_cons_zero, List.set_cons_succ, i64_w, i32_w]
                  rfl
                refine pure_ (i := 15) (N := some 169) (v := ?_) (a' := ?_) #[true, true, true, true, true, true, true, true, false, false, true, true, true, true, true, true, false, false, false, false, false, false, false, false, false, false, false, false, false, false, false, false, false, false, false, false, false, false, false] rfl rfl (by kernel_rfl) (fun _ _ _ h => h) (Or.inl ⟨by rfl, ?_⟩) ?_ ?_
                rotate_left
                · intro w'
                  go_simp
                  with_reducible rfl
                rotate_left
                · simp only [Act.put, List.setIfInBounds_toArray, List.set_cons_zero, List.set_cons_succ, i64_w, i32_w]
                  rfl
                refine take_ (i := 16) (N := some 170) (v := ?_) (a' := ?_) #[true, true, true, true, true, true, true, true, false, false, true, true, true, true, true, true, true, false, false, false, false, false, false, false, false, false, false, false, false, false, false, false, false, false, false, false, false, false, false] rfl rfl (by kernel_rfl) (fun _ _ _ h => h) (Or.inl ⟨by rfl, ?_⟩) hHeld ?_ ?_
                rotate_left
                · intro w' hS'
                  obtain ⟨s1, s2, s3, s4, s5⟩ := hS'
                  go_simp
                  with_reducible rfl
                rotate_left
                · simp only [Act.put, List.setIfInBounds_toArray, List.set_cons_zero, List.set_cons_succ, i64_w, i32_w]
                  rfl
                refine pure_ (i := 17) (N := some 171) (v := ?_) (a' := ?_) #[true, true, true, true, true, true, true, true, false, false, true, true, true, true, true, true, true, true, false, false, false, false, false, false, false, false, false, false, false, false, false, false, false, false, false, false, false, false, false] rfl rfl (by kernel_rfl) (fun _ _ _ h => h) (Or.inl ⟨by rfl, ?_⟩) ?_ ?_
                rotate_left
                · intro w'
                  go_simp
                  with_reducible rfl
                rotate_left
                · simp only [Act.put, List.setIfInBounds_toArray, List.set_cons_zero, List.set_cons_succ, i64_w, i32_w]
                  rfl
                refine pure_ (i := 18) (N := some 172) (v := ?_) (a' := ?_) #[true, true, true, true, true, true, true, true, false, false, true, true, true, true, true, true, true, true, true, false, false, false, false, false, false, false, false, false, false, false, false, false, false, false, false, false, false, false, false] rfl rfl (by kernel_rfl) (fun _ _ _ h => h) (Or.inl ⟨by rfl, ?_⟩) ?_ ?_
                rotate_left
                · intro w'
                  go_simp
                  with_reducible rfl
                rotate_left
                · simp only [Act.put, List.setIfInBounds_toArray, List.set_cons_zero, List.set_cons_succ, i64_w, i32_w]
                  rfl
                refine take_ (i := 19) (N := some 173) (v := ?_) (a' := ?_) #[true, true, true, true, true, true, true, true, false, false, true, true, true, true, true, true, true, true, true, true, false, false, false, false, false, false, false, false, false, false, false, false, false, false, false, false, false, false, false] rfl rfl (by kernel_rfl) (fun _ _ _ h => h) (Or.inl ⟨by rfl, ?_⟩) hHeld ?_ ?_
                rotate_left
                · intro w' hS'
                  obtain ⟨s1, s2, s3, s4, s5⟩ := hS'
                  go_simp
                  with_reducible rfl
                rotate_left
                · simp only [Act.put, List.setIfInBounds_toArray, List.set_cons_zero, List.set_cons_succ, i64_w, i32_w]
                  rfl
                refine take_ (i := 20) (N := some 174) (v := ?_) (a' := ?_) #[true, true, true, true, true, true, true, true, false, false, true, true, true, true, true, true, true, true, true, true, true, false, false, false, false, false, false, false, false, false, false, false, false, false, false, false, false, false, false] rfl rfl (by kernel_rfl) (fun _ _ _ h => h) (Or.inl ⟨by rfl, ?_⟩) hHeld ?_ ?_
                rotate_left
                · intro w' hS'
                  obtain ⟨s1, s2, s3, s4, s5⟩ := hS'
                  go_simp
                  with_reducible rfl
                rotate_left
                · simp only [Act.put, List.setIfInBounds_toArray, List.set_cons_zero, List.set_cons_succ, i64_w, i32_w]
                  rfl
                refine one_ (i := 8) (N := some 162) #[true, true, true, true, true, true, true, true, true, false, true, true, true, true, true, true, true, true, true, true, true, false, false, false, false, false, false, false, false, false, false, false, false, false, false, false, false, false, false] rfl rfl (by kernel_rfl) (by decide) (fun K hK => ?_)
                refine Eq.mpr (if_pos (by rfl)) ?_
                go_simp
                refine CB.out.mono ?_
                rintro e w3 ⟨A3, c3, rfl, hBs3, hB3⟩
                have R3 := pw_cell_below hB3 Q3
                have R0 := pw_cell_below hB3 Q0
                have R1 := pw_cell_below hB3 G0
                have R2 := pw_cell_below hB3 G1
                have RJ0 : (convert 109 9 (.slice A2 n1 c2)).run Try.prog w3 = .ok (.string S0) w3 := by rw [HS0.out]; exact (HMM2.out.below hB3).bs.str
                have SJ0 : (convert 109 9 (.slice A3 n1 c3)).run Try.prog w3 = .ok (.string S0) w3 := by rw [HS0.out]; exact hBs3.str
                have HB3 := Aside0.mk hB3
                clear hBs3 hB3 Q3 Q0 G0 G1 J2 hHeld
                refine hK.out _ _ ⟨R3, R0, R1, R2, RJ0⟩ (fun hHeld => ?_)
                clear hK K
                refine one_ (i := 9) (N := some 163) #[true, true, true, true, true, true, true, true, true, true, true, true, true, true, true, true, true, true, true, true, true, false, false, false, false, false, false, false, false, false, false, false, false, false, false, false, false, false, false] rfl rfl (by kernel_rfl) (by decide) (fun K hK => ?_)
                refine Eq.mpr (if_pos (by rfl)) ?_
                go_simp
                refine hK.out _ _ ⟨R3, R0, R1, R2, RJ0⟩ (fun hHeld => ?_)
                clear hK K
                refine pure_ (i := 21) (N := some 175) (v := ?_) (a' := ?_) #[true, true, true, true, true, true, true, true, true, true, true, true, true, true, true, true, true, true, true, true, true, true, false, false, false, false, false, false, false, false, false, false, false, false, false, false, false, false, false] rfl rfl (by kernel_rfl) (fun _ _ _ h => h) (Or.inl ⟨by rfl, ?_⟩) ?_ ?_
                rotate_left
                · intro w'
                  go_simp
                  with_reducible rfl
                rotate_left
                · simp only [Act.put, List.setIfInBounds_toArray, List.set_cons_zero, List.set_cons_succ, i64_w, i32_w]
                  rfl
                refine pure_ (i := 22) (N := some 176) (v := ?_) (a' := ?_) #[true, true, true, true, true, true, true, true, true, true, true, true, true, true, true, true, true, true, true, true, true, true, true, false, false, false, false, false, false, false, false, false, false, false, false, false, false, false, false] rfl rfl (by kernel_rfl) (fun _ _ _ h => h) (Or.inl ⟨by rfl, ?_⟩) ?_ ?_
                rotate_left
                · intro w'
                  go_simp
                  with_reducible rfl
                rotate_left
                · simp only [Act.put, List.setIfInBounds_toArray, List.set_cons_zero, List.set_cons_succ, i64_w, i32_w]
                  rfl
                refine pure_ (i := 23) (N := some 177) (v := ?_) (a' := ?_) #[true, true, true, true, true, true, true, true, true, true, true, true, true, true, true, true, true, true, true, true, true, true, true, true, false, false, false, false, false, false, false, false, false, false, false, false, false, false, false] rfl rfl (by kernel_rfl) (fun _ _ _ h => h) (Or.inl ⟨by rfl, ?_⟩) ?_ ?_
                rotate_left
                · intro w'
                  go_simp
                  with_reducible rfl
                rotate_left
                · simp only [Act.put, List.setIfInBounds_toArray, List.set_cons_zero, List.set_cons_succ, i64_w, i32_w]
                  rfl
                refine pure_ (i := 25) (N := some 179) (v := ?_) (a' := ?_) #[true, true, true, true, true, true, true, true, true, true, true, true, true, true, true, true, true, true, true, true, true, true, true, true, false, true, false, false, false, false, false, false, false, false, false, false, false, false, false] rfl rfl (by kernel_rfl) (fun _ _ _ h => h) (Or.inl ⟨by rfl, ?_⟩) ?_ ?_
                rotate_left
                · intro w'
                  go_simp
                  with_reducible rfl
                rotate_left
                · simp only [Act.put, List.setIfInBounds_toArray, List.set_cons_zero, List.set_cons_succ, i64_w, i32_w]
                  rfl
                refine pure_ (i := 26) (N := some 180) (v := ?_) (a' := ?_) #[true, true, true, true, true, true, true, true, true, true, true, true, true, true, true, true, true, true, true, true, true, true, true, true, false, true, true, false, false, false, false, false, false, false, false, false, false, false, false] rfl rfl (by kernel_rfl) (fun _ _ _ h => h) (Or.inl ⟨by rfl, ?_⟩) ?_ ?_
                rotate_left
                · intro w'
                  go_simp
                  with_reducible rfl
                rotate_left
                · simp only [Act.put, List.setIfInBounds_toArray, List.set_cons_zero, List.set_cons_succ, i64_w, i32_w]
                  rfl
                refine pure_ (i := 27) (N := some 181) (v := ?_) (a' := ?_) #[true, true, true, true, true, true, true, true, true, true, true, true, true, true, true, true, true, true, true, true, true, true, true, true, false, true, true, true, false, false, false, false, false, false, false, false, false, false, false] rfl rfl (by kernel_rfl) (fun _ _ _ h => h) (Or.inl ⟨by rfl, ?_⟩) ?_ ?_
                rotate_left
                · intro w'
                  go_simp
                  with_reducible rfl
                rotate_left
                · simp only [Act.put, List.setIfInBounds_toArray, List.set_cons_zero, List.set_cons_succ, i64_w, i32_w]
                  rfl
                refine take_ (i := 28) (N := some 182) (v := ?_) (a' := ?_) #[true, true, true, true, true, true, true, true, true, true, true, true, true, true, true, true, true, true, true, true, true, true, true, true, false, true, true, true, true, false, false, false, false, false, false, false, false, false, false] rfl rfl (by kernel_rfl) (fun _ _ _ h => h) (Or.inl ⟨by rfl, ?_⟩) hHeld ?_ ?_
                rotate_left
                · intro w' hS'
                  obtain ⟨s1, s2, s3, s4, s5⟩ := hS'
                  go_simp
                  with_reducible rfl
                rotate_left
                · simp only [Act.put, List.setIfInBounds_toArray, List.set_cons_zero, List.set_cons_succ, i64_w, i32_w]
                  rfl
                refine pure_ (i := 29) (N := some 183) (v := ?_) (a' := ?_) #[true, true, true, true, true, true, true, true, true, true, true, true, true, true, true, true, true, true, true, true, true, true, true, true, false, true, true, true, true, true, false, false, false, false, false, false, false, false, false] rfl rfl (by kernel_rfl) (fun _ _ _ h => h) (Or.inl ⟨by rfl, ?_⟩) ?_ ?_
                rotate_left
                · intro w'
                  go_simp
                  with_reducible rfl
                rotate_left
                · simp only [Act.put, List.setIfInBounds_toArray, List.set_cons_zero, List.set_cons_succ, i64_w, i32_w]
                  rfl
                refine pure_ (i := 30) (N := some 184) (v := ?_) (a' := ?_) #[true, true, true, true, true, true, true, true, true, true, true, true, true, true, true, true, true, true, true, true, true, true, true, true, false, true, true, true, true, true, true, false, false, false, false, false, false, false, false] rfl rfl (by kernel_rfl) (fun _ _ _ h => h) (Or.inl ⟨by rfl, ?_⟩) ?_ ?_
                rotate_left
                · intro w'
                  go_simp
                  with_reducible rfl
                rotate_left
                · simp only [Act.put, List.setIfInBounds_toArray, List.set_cons_zero, List.set_cons_succ, i64_w, i32_w]
                  rfl
                refine take_ (i := 31) (N := some 185) (v := ?_) (a' := ?_) #[true, true, true, true, true, true, true, true, true, true, true, true, true, true, true, true, true, true, true, true, true, true, true, true, false, true, true, true, true, true, true, true, false, false, false, false, false, false, false] rfl rfl (by kernel_rfl) (fun _ _ _ h => h) (Or.inl ⟨by rfl, ?_⟩) hHeld ?_ ?_
                rotate_left
                · intro w' hS'
                  obtain ⟨s1, s2, s3, s4, s5⟩ := hS'
                  go_simp
                  with_reducible rfl
                rotate_left
                · simp only [Act.put, List.setIfInBounds_toArray, List.set_cons_zero, List.set_cons_succ, i64_w, i32_w]
                  rfl
                refine pure_ (i := 32) (N := some 186) (v := ?_) (a' := ?_) #[true, true, true, true, true, true, true, true, true, true, true, true, true, true, true, true, true, true, true, true, true, true, true, true, false, true, true, true, true, true, true, true, true, false, false, false, false, false, false] rfl rfl (by kernel_rfl) (fun _ _ _ h => h) (Or.inl ⟨by rfl, ?_⟩) ?_ ?_
                rotate_left
                · intro w'
                  go_simp
                  with_reducible rfl
                rotate_left
                · simp only [Act.put, List.setIfInBounds_toArray, List.set_cons_zero, List.set_cons_succ, i64_w, i32_w]
                  rfl
                refine pure_ (i := 33) (N := some 187) (v := ?_) (a' := ?_) #[true, true, true, true, true, true, true, true, true, true, true, true, true, true, true, true, true, true, true, true, true, true, true, true, false, true, true, true, true, true, true, true, true, true, false, false, false, false, false] rfl rfl (by kernel_rfl) (fun _ _ _ h => h) (Or.inl ⟨by rfl, ?_⟩) ?_ ?_
                rotate_left
                · intro w'
                  go_simp
                  with_reducible rfl
                rotate_left
                · simp only [Act.put, List.setIfInBounds_toArray, List.set_cons_zero, List.set_cons_succ, i64_w, i32_w]
                  rfl
                refine take_ (i := 34) (N := some 188) (v := ?_) (a' := ?_) #[true, true, true, true, true, true, true, true, true, true, true, true, true, true, true, true, true, true, true, true, true, true, true, true, false, true, true, true, true, true, true, true, true, true, true, false, false, false, false] rfl rfl (by kernel_rfl) (fun _ _ _ h => h) (Or.inl ⟨by rfl, ?_⟩) hHeld ?_ ?_
                rotate_left
                · intro w' hS'
                  obtain ⟨s1, s2, s3, s4, s5⟩ := hS'
                  go_simp
                  with_reducible rfl
                rotate_left
                · simp only [Act.put, List.setIfInBounds_toArray, List.set_cons_zero, List.set_cons_succ, i64_w, i32_w]
                  rfl
                refine one_ (i := 24) (N := some 178) #[true, true, true, true, true, true, true, true, true, true, true, true, true, true, true, true, true, true, true, true, true, true, true, true, true, true, true, true, true, true, true, true, true, true, true, false, false, false, false] rfl rfl (by kernel_rfl) (by decide) (fun K hK => ?_)
                refine Eq.mpr (if_pos (by rfl)) ?_
                go_simp
                refine (CM2.out _ HB3.out).mono ?_
                rintro e w4 ⟨rfl, ⟨nd4, rfl⟩⟩
                have RJ4 : (convert 109 9 (.slice A2 n1 c2)).run Try.prog (w3.drewN nd4) = .ok (.string S0) (w3.drewN nd4) := by rw [HS0.out]; exact (HMM2.out.below (pw_below_drewN HB3.out nd4)).bs.str
                refine hK.out _ _ ⟨R3, R0, R1, R2, RJ4⟩ (fun hHeld => ?_)
                clear hK K
                refine pure_ (i := 35) (N := some 189) (v := ?_) (a' := ?_) #[true, true, true, true, true, true, true, true, true, true, true, true, true, true, true, true, true, true, true, true, true, true, true, true, true, true, true, true, true, true, true, true, true, true, true, true, false, false, false] rfl rfl (by kernel_rfl) (fun _ _ _ h => h) (Or.inl ⟨by rfl, ?_⟩) ?_ ?_
                rotate_left
                · intro w'
                  go_simp
                  with_reducible rfl
                rotate_left
                · simp only [Act.put, List.setIfInBounds_toArray, List.set_cons_zero, List.set_cons_succ, i64_w, i32_w]
                  rfl
                refine pure_ (i := 36) (N := some 190) (v := ?_) (a' := ?_) #[true, true, true, true, true, true, true, true, true, true, true, true, true, true, true, true, true, true, true, true, true, true, true, true, true, true, true, true, true, true, true, true, true, true, true, true, true, false, false] rfl rfl (by kernel_rfl) (fun _ _ _ h => h) (Or.inl ⟨by rfl, ?_⟩) ?_ ?_
                rotate_left
                · intro w'
                  go_simp
                  with_reducible rfl
                rotate_left
                · simp only [Act.put, List.setIfInBounds_toArray, List.set_cons_zero, List.set_cons_succ, i64_w, i32_w]
                  rfl
                refine pure_ (i := 37) (N := some 191) (v := ?_) (a' := ?_) #[true, true, true, true, true, true, true, true, true, true, true, true, true, true, true, true, true, true, true, true, true, true, true, true, true, true, true, true, true, true, true, true, true, true, true, true, true, true, false] rfl rfl (by kernel_rfl) (fun _ _ _ h => h) (Or.inl ⟨by rfl, ?_⟩) ?_ ?_
                rotate_left
                · intro w'
                  go_simp
                  with_reducible rfl
                rotate_left
                · simp only [Act.put, List.setIfInBounds_toArray, List.set_cons_zero, List.set_cons_succ, i64_w, i32_w]
                  rfl
                refine pure_ (i := 38) (N := some 192) (v := ?_) (a' := ?_) #[true, true, true, true, true, true, true, true, true, true, true, true, true, true, true, true, true, true, true, true, true, true, true, true, true, true, true, true, true, true, true, true, true, true, true, true, true, true, true] rfl rfl (by kernel_rfl) (fun _ _ _ h => h) (Or.inl ⟨by rfl, ?_⟩) ?_ ?_
                rotate_left
                · intro w'
                  go_simp
                  with_reducible rfl
                rotate_left
                · simp only [Act.put, List.setIfInBounds_toArray, List.set_cons_zero, List.set_cons_succ, i64_w, i32_w]
                  rfl
                refine done_ (by kernel_rfl) ?_
                go_wp2
                go_roundg k2
                case measure => omega
                case rel => exact ⟨(k : Int) + 1, (by first | rfl | (rw [← hw1]; rfl) | (simp; done) | (simp [*]; done)), by omega, by omega, ⟨hB.out.trans (below_mono ((HB2.out.drew).trans (below_mono (pw_below_drewN HB3.out _) HB2.out.size)) hB.out.size)⟩⟩
              · have CF := Aside0.mk (sh_mem_no (HS.out.below hB.out) i g)
                have dz : decide (0 ≤ i) = false ∨ (decide (0 ≤ i) = true ∧ decide (i < (N.length : Int)) = false) := by
                  by_cases h0 : 0 ≤ i
                  · exact .inr ⟨decide_eq_true h0, decide_eq_false (fun h1 => g ⟨h0, h1⟩)⟩
                  · exact .inl (decide_eq_false h0)
                clear g
                go_upto_region 19 with (go_at_call 39; (refine CF.out.mono ?_); rintro e w1 ⟨rfl, ⟨nd1, rfl⟩⟩)
                rcases dz with d0 | ⟨d0, d1⟩
                all_goals
                  go_upto_region 20 with fail
                  go_quiet (fail)
                  go_wp2
                  go_roundg k2
                  case measure => omega
                  case rel => exact ⟨i + 1, (by first | rfl | (rw [← hw1]; rfl) | (simp; done) | (simp [*]; done)), by omega, by omega, ⟨hB.out.trans (below_mono (pw_below_drewN (Below.refl _ _) _) hB.out.size)⟩⟩
            | zero =>
              have dle : decide (i ≤ (N.length : Int)) = false := decide_eq_false (by omega)
              clear hi1 hi2
              go_wp2_with fail
              have HB1 := Aside0.mk hB.out
              clear hB p3 dle
              -- the globals
              go_loopg [16] (G.length + 2) (fun kq v16 w' => ∃ i : Int, v16 = .int .i64 i ∧ -1 ≤ i ∧ i + kq = G.length + 1 ∧ Aside0 (Below w.heap.size w w'))
              case atStart => exact ⟨-1, rfl, by omega, by omega, HB1⟩
              case round =>
                obtain ⟨i, rfl, hi1, hi2, hB⟩ := hrel
                have p4 : wr.cell? ⟨m, 4, none⟩ = some (.slice AG G.length cG) := (HM.out.below hB.out).md.row.cell 4
                cases gk with
                | succ k2 =>
                  have dle : decide (i ≤ (G.length : Int)) = true := decide_eq_true (by omega)
                  have hw1 : IntKind.i64.wrap (i + 1) = i + 1 := by rw [IntKind.wrap_i64]; omega
                  by_cases g : 0 ≤ i ∧ i < G.length
                  · obtain ⟨k, rfl⟩ := Int.eq_ofNat_of_zero_le g.1
                    have hk : k < G.length := by omega
                    obtain ⟨x, hx⟩ : ∃ x, G[k]? = some x := ⟨_, List.getElem?_eq_getElem hk⟩
                    obtain ⟨ad, cG2, e1, q0, q1, q2⟩ := glob_at (HM.out.below hB.out) k hk x hx
                    injection e1 with e1 e2 e3
                    subst e1
                    subst e3
                    clear e2
                    have CF := Aside0.mk (global_in (HS.out.below hB.out).st k hk x (by rw [List.getD_eq_getElem?_getD, hx]; rfl))
                    have dlt : decide ((k : Int) < (G.length : Int)) = true := decide_eq_true (by omega)
                    have d0 : decide ((0 : Int) ≤ (k : Int)) = true := decide_eq_true (by omega)
                    have j0 : (0 : Int) ≤ (k : Int) := by omega
                    have j1 : (k : Int) < (G.length : Int) := by omega
                    clear hx
                    go_upto_region 26 with (go_at_call 42; (refine CF.out.mono ?_); rintro e w1 ⟨rfl, hB1⟩; have HB2 := Aside0.mk hB1; clear hB1)
                    obtain ⟨w2, hw2⟩ : ∃ w2, w2 = w1.alloc (.cells #[.int .i64 x.f0, .bool x.f1, .int .u64 x.f2] 41) := ⟨_, rfl⟩
                    have hr2 : Row w2 w1.heap.size 41 #[.int .i64 x.f0, .bool x.f1, .int .u64 x.f2] := by rw [hw2]; exact Row.made _ _ _ rfl
                    have hB12 : Below w1.heap.size w1 w2 := by rw [hw2]; exact below_alloc (Below.refl _ _) _
                    rw [← hw2]
                    clear hw2
                    have hB3 := HB2.out.trans (below_mono hB12 HB2.out.size)
                    have P4 := pw_cell_below hB3 p4
                    have Q0 := pw_cell_below hB3 q0
                    have Q1 := pw_cell_below hB3 q1
                    have Q2 := pw_cell_below hB3 q2
                    have T0 : w2.cell? ⟨w1.heap.size, 0, none⟩ = some (.int .i64 x.f0) := hr2.cell 0
                    have T1 : w2.cell? ⟨w1.heap.size, 1, none⟩ = some (.bool x.f1) := hr2.cell 1
                    have T2 : w2.cell? ⟨w1.heap.size, 2, none⟩ = some (.int .u64 x.f2) := hr2.cell 2
                    have HB3 := Aside0.mk hB3
                    clear hr2 hB12 hB3 p4 q0 q1 q2 CF
                    go_upto_region 27 with fail
                    go_quiet (fail)
                    go_wp2
                    go_roundg k2
                    case measure => omega
                    case rel => exact ⟨(k : Int) + 1, (by first | rfl | (rw [← hw1]; rfl) | (simp; done) | (simp [*]; done)), by omega, by omega, ⟨hB.out.trans (below_mono (pw_below_drewN HB3.out _) hB.out.size)⟩⟩
                  · have CF := Aside0.mk (global_no (HS.out.below hB.out).st i g)
                    have dz : decide (0 ≤ i) = false ∨ (decide (0 ≤ i) = true ∧ decide (i < (G.length : Int)) = false) := by
                      by_cases h0 : 0 ≤ i
                      · exact .inr ⟨decide_eq_true h0, decide_eq_false (fun h1 => g ⟨h0, h1⟩)⟩
                      · exact .inl (decide_eq_false h0)
                    clear g
                    go_upto_region 26 with (go_at_call 42; (refine CF.out.mono ?_); rintro e w1 ⟨rfl, hB1⟩; have HB2 := Aside0.mk hB1; clear hB1)
                    obtain ⟨w2, hw2⟩ : ∃ w2, w2 = w1.alloc (.cells #[.int .i64 0, .bool false, .int .u64 0] 41) := ⟨_, rfl⟩
                    have hB12 : Below w1.heap.size w1 w2 := by rw [hw2]; exact below_alloc (Below.refl _ _) _
                    rw [← hw2]
                    clear hw2
                    have hB3 := HB2.out.trans (below_mono hB12 HB2.out.size)
                    have P4 := pw_cell_below hB3 p4
                    have HB3 := Aside0.mk hB3
                    clear hB3 hB12 p4 CF
                    rcases dz with d0 | ⟨d0, d1⟩
                    all_goals
                      go_upto_region 27 with fail
                      go_quiet (fail)
                      go_wp2
                      go_roundg k2
                      case measure => omega
                      case rel => exact ⟨i + 1, (by first | rfl | (rw [← hw1]; rfl) | (simp; done) | (simp [*]; done)), by omega, by omega, ⟨hB.out.trans (below_mono (pw_below_drewN HB3.out _) hB.out.size)⟩⟩
                | zero =>
                  have dle : decide (i ≤ (G.length : Int)) = false := decide_eq_false (by omega)
                  clear hi1 hi2
                  go_wp2_with fail
                  go_ret
                  exact ⟨rfl, hB.out⟩
end Go.Proofs.Ytbelijoggbblgaa.Sp
