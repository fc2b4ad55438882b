/- The law LexGaps, walked. -/
import Derived.Test.YtaidpcmndmjceaaDoorLx7
import Derived.Test.YtaidpcmndmjceaaDoorErr3
namespace Go.Proofs.YtaidpcmndmjceaaDoor.Lx
open Go.RowKit Go.Proofs.YtaidpcmndmjceaaDoorW.PrintWords Go.Proofs.YtaidpcmndmjceaaDoorW.PrintLast Go.Proofs.YtaidpcmndmjceaaDoorW.PrintMore Go.Proofs.YtaidpcmndmjceaaDoor.RLexScans Go.Proofs.YtaidpcmndmjceaaDoor.Man
set_option linter.unusedVariables false
set_option linter.unusedSimpArgs false
def gsOf : Nat → ByteArray
  | 0 => ⟨#[32]⟩
  | 1 => ⟨#[9, 13, 10]⟩
  | 2 => ⟨#[59, 59, 32, 120, 10]⟩
  | 3 => ⟨#[40, 59, 32, 97, 32, 40, 59, 32, 98, 32, 59, 41, 32, 59, 41]⟩
  | _ => ⟨#[40, 59, 59, 41]⟩
def gsObj : Obj := .cells #[.string ⟨#[32]⟩, .string ⟨#[9, 13, 10]⟩, .string ⟨#[59, 59, 32, 120, 10]⟩, .string ⟨#[40, 59, 32, 97, 32, 40, 59, 32, 98, 32, 59, 41, 32, 59, 41]⟩, .string ⟨#[40, 59, 59, 41]⟩] 9
theorem gs_cell (w : World) : ∀ j : Nat, j < 5 → (w.alloc gsObj).cell? ⟨w.heap.size, j, none⟩ = some (.string (gsOf j)) := by
  intro j hj
  unfold gsObj
  rw [cell_new _ _ _ _ _ rfl]
  match j, hj with
  | 0, _ => rfl
  | 1, _ => rfl
  | 2, _ => rfl
  | 3, _ => rfl
  | 4, _ => rfl
theorem gs_mem : ∀ j : Nat, j < 5 → bytesOf (gsOf j) ∈ gapsL ∧ (gsOf j).size ≤ 15 := by
  intro j hj
  match j, hj with
  | 0, _ => exact ⟨by decide, by decide⟩
  | 1, _ => exact ⟨by decide, by decide⟩
  | 2, _ => exact ⟨by decide, by decide⟩
  | 3, _ => exact ⟨by decide, by decide⟩
  | 4, _ => exact ⟨by decide, by decide⟩
theorem scan_about {g : ByteArray} (hg : bytesOf g ∈ gapsL) (s : ByteArray) : scan (bytesOf (g ++ s ++ ⟨#[32]⟩ ++ g)) = shiftR g.size (scan (bytesOf s)) := by
  rw [bytes_app, bytes_app, bytes_app, List.append_assoc, List.append_assoc]
  have k := scan_gaps hg (bytesOf s)
  rw [bytesOf_length] at k
  exact k
theorem keys_shift (n : Nat) (cs : List S36) : keys false cs = keys false (cs.map (shift n)) := by
  unfold keys
  rw [List.map_map]
  rfl
theorem f1_shift (n : Nat) (cs : List S36) (x : Int) (h0 : 0 ≤ x) (h1 : x < (cs.length : Int)) : (rd_T36 (cs.map (shift n)) x).f1 = (rd_T36 cs x).f1 + (n : Int) := by
  have hl : x.toNat < cs.length := by omega
  unfold rd_T36
  rw [List.getD_eq_getElem?_getD, List.getD_eq_getElem?_getD, List.getElem?_map, List.getElem?_eq_getElem hl]
  rfl
theorem scL_f1 : ∀ (f : Nat) (l : List Int) (p : Nat) (out cs : List S36), (∀ t ∈ out, 0 ≤ t.f1 ∧ t.f1 ≤ (p : Int)) → scL f l p out = .ok cs → ∀ t ∈ cs, 0 ≤ t.f1 ∧ t.f1 ≤ ((p + l.length : Nat) : Int)
  | 0, l, p, out, cs, ho, h => by rw [scL] at h; injection h with h; subst h; intro t ht; have := ho t ht; omega
  | f + 1, l, p, out, cs, ho, h => by
    rw [scL] at h
    split at h
    · injection h with h; subst h; intro t ht; have := ho t ht; omega
    · cases hg : gapN l with
      | none => rw [hg] at h; cases h
      | some g =>
        have hgl := gapN_len hg
        rw [hg] at h
        match g, hgl with
        | g + 1, hgl =>
          have k := scL_f1 f _ _ _ cs (fun t ht => by have := ho t ht; omega) h
          intro t ht
          have := k t ht
          rw [List.length_drop] at this
          omega
        | 0, _ =>
          simp only at h
          cases ht : tokN l with
          | none => rw [ht] at h; cases h
          | some q =>
            obtain ⟨k, t, n⟩ := q
            have htl := tokN_len ht
            rw [ht] at h
            simp only at h
            split at h
            · cases h
            · have k := scL_f1 f _ _ _ cs (fun t' ht' => by
                rcases List.mem_append.1 ht' with h' | h'
                · have := ho t' h'; omega
                · rw [List.mem_singleton] at h'; subst h'; simp only; omega) h
              intro t' ht'
              have := k t' ht'
              rw [List.length_drop] at this
              omega
theorem wn1 {x : Int} (hx : x < 0) (hlo : -9223372036854775808 ≤ x) : wrap64 (x + 1) = x + 1 := by unfold wrap64; omega
theorem wn2 {x y : Int} (hx : x < 0) (hlo : -9223372036854775808 ≤ x) (hy : y = -(x + 1)) : wrap64 (-(x + 1)) = y := by subst hy; unfold wrap64; omega
theorem wadd {a : Int} {n m : Nat} (h0 : 0 ≤ a) (h1 : a ≤ (m : Int)) (hm : m ≤ 20000) (hn : n ≤ 15) : wrap64 (a + (n : Int)) = a + (n : Int) := by unfold wrap64; omega
theorem wplus1 {z : Int} (h0 : 0 ≤ z) (h1 : z ≤ 100000) : IntKind.i64.wrap (z + 1) = z + 1 := by rw [IntKind.wrap_i64]; omega
theorem rem5 {y : Int} (hy0 : 0 ≤ y) : ∃ j : Nat, j < 5 ∧ y.tmod 5 = (j : Int) := by
  have h1 := Int.tmod_nonneg 5 hy0
  have h2 := Int.tmod_lt_of_pos y (show (0 : Int) < 5 by decide)
  generalize y.tmod 5 = z at h1 h2
  exact ⟨z.toNat, by omega, by omega⟩
theorem m5_of {j : Nat} (h : j < 5) : ((j : Int) < 5) = True := eq_true (by omega)
theorem sz4 {g s : ByteArray} (hs : s.size ≤ 20000) (hg : g.size ≤ 15) : (g ++ s ++ (⟨#[32]⟩ : ByteArray) ++ g).size ≤ 100000 := by
  rw [ByteArray.size_append, ByteArray.size_append, ByteArray.size_append]
  have : (⟨#[32]⟩ : ByteArray).size = 1 := rfl
  omega
theorem sums {g s : ByteArray} (hs : s.size ≤ 20000) (hg : g.size ≤ 15) : (9223372036854775807 < g.size + s.size) = False ∧ (9223372036854775807 < g.size + s.size + 1) = False ∧ (9223372036854775807 < g.size + s.size + 1 + g.size) = False := ⟨eq_false (by omega), eq_false (by omega), eq_false (by omega)⟩
theorem rd_mem (cs : List S36) (x : Int) (h0 : 0 ≤ x) (h1 : x < (cs.length : Int)) : rd_T36 cs x ∈ cs := by
  have hl : x.toNat < cs.length := by omega
  unfold rd_T36
  rw [List.getD_eq_getElem?_getD, List.getElem?_eq_getElem hl]
  exact List.getElem_mem hl
attribute [local go_sem] max2_int min2_int max_two min_two max_three min_three max_four min_four
set_option maxRecDepth 100000 in
set_option maxHeartbeats 8000000 in
theorem gapsEn (W : World) (hG : GL W) (s : ByteArray) (x : Int) (hlo : -9223372036854775808 ≤ x) (hhi : x < 9223372036854775808) (hx : x < 0) (hs : s.size ≤ 20000) (b : Int) (a : Nat) (hd : scan (bytesOf s) = .error (b, a)) : Calls Tryd.prog 5 #[.string s, .int .i64 x] W fun e w' => e = .returned (.bool true) ∧ Below W.heap.size W w' := by
    have HG := Aside0.mk hG
    have g1 : decide ((20000 : Int) < (s.size : Int)) = false := decide_eq_false (by omega)
    have n1 : decide (x < 0) = true := decide_eq_true hx
    obtain ⟨y, hy⟩ : ∃ y, y = -(x + 1) := ⟨_, rfl⟩
    have hy0 : 0 ≤ y := by omega
    have E12 := Aside0.mk (And.intro (wn1 hx hlo) (wn2 hx hlo hy))
    obtain ⟨j, hj5, hj⟩ := rem5 hy0
    have HJV := Aside0.mk hj
    clear hj
    have m5 := m5_of hj5
    have HGM := Aside0.mk (gs_mem j hj5)
    obtain ⟨gs, hgs⟩ : ∃ g, g = gsOf j := ⟨_, rfl⟩
    have hsz : gs.size ≤ 15 := by rw [hgs]; exact HGM.out.2
    have CS2 := Aside0.mk (fun W5 : World => by have z := scan_calls W5 (gs ++ s ++ ⟨#[32]⟩ ++ gs) (sz4 hs hsz); rw [scan_about (by rw [hgs]; exact HGM.out.1)] at z; exact z)
    have HJ := Aside0.mk (And.intro hj5 hgs)
    have HS3 := Aside0.mk (sums hs hsz)
    have CS := Aside0.mk (fun W5 : World => scan_calls W5 s (by omega))
    rw [hd] at CS CS2
    obtain ⟨a2, ha2⟩ : ∃ a2, a2 = a + gs.size := ⟨_, rfl⟩
    have CS2' := Aside0.mk (fun W5 : World => by have z := CS2.out W5; rw [show shiftR gs.size (.error (b, a)) = .error (b, a2) by rw [ha2]; rfl] at z; exact z)
    clear CS2
    have CS2 := CS2'
    clear CS2'
    have hb := scL_err _ _ _ _ _ _ hd
    rw [bytesOf_length] at hb
    have HC9 := Aside0.mk (show 1 ≤ b ∧ b ≤ 9 by rcases hb.1 with rfl | rfl <;> decide)
    have HAT := Aside0.mk ((wadd (a := (a : Int)) (n := gs.size) (m := s.size) (by omega) (by omega) hs hsz).trans (by omega : (a : Int) + (gs.size : Int) = (a2 : Int)))
    have hbb : (b == b) = true := beq_self_eq_true b
    have haa : ((a2 : Int) == (a2 : Int)) = true := beq_self_eq_true _
    clear ha2 hG hd hs hb hsz hj5 hgs hy0 hlo hhi hx hy
    obtain ⟨e1, e2⟩ := E12.out
    clear E12
    have hat := HAT.out
    clear HAT
    have hj := HJV.out
    obtain ⟨s1, s2, s3⟩ := HS3.out
    clear HJV HS3
    go_enter Tryd.func5, Tryd.ntmps5
    go_upto_region 8 with (first
      | (go_at_call 6; (refine (up_calls _ HG.out).mono ?_); rintro e w1 ⟨rfl, hB1⟩; have HB1 := Aside0.mk hB1; clear hB1)
      | (go_at_call 7; (refine (CS.out _).mono ?_); rintro e w2 ⟨p, rfl, p0, p1, pl, hB2⟩; have HP := Aside0.mk (And.intro p0 p1); have HB2 := Aside0.mk (HB1.out.trans (hB2.mono HB1.out.size)); clear p0 p1 pl hB2))
    have hcell := gs_cell w2 j HJ.out.1
    rw [← HJ.out.2] at hcell
    have hB3 : Below W.heap.size W (w2.alloc gsObj) := below_alloc HB2.out _
    have hP2 := And.intro (pw_cell_below (below_alloc (Below.refl w2.heap.size w2) gsObj) HP.out.1) (pw_cell_below (below_alloc (Below.refl w2.heap.size w2) gsObj) HP.out.2)
    unfold gsObj at hcell hB3 hP2
    generalize (w2.alloc (.cells #[.string ⟨#[32]⟩, .string ⟨#[9, 13, 10]⟩, .string ⟨#[59, 59, 32, 120, 10]⟩, .string ⟨#[40, 59, 32, 97, 32, 40, 59, 32, 98, 32, 59, 41, 32, 59, 41]⟩, .string ⟨#[40, 59, 59, 41]⟩] 9)) = w3 at hcell hB3 hP2 ⊢
    generalize w2.heap.size = g0 at hcell ⊢
    have HB3 := Aside0.mk hB3
    clear hB3
    have HP2 := Aside0.mk hP2
    clear hP2
    go_upto_region 10 with (go_at_call 7; (refine (CS2.out _).mono ?_); rintro e w4 ⟨p4, rfl, p0, p1, pl, hB4⟩; have HP4 := Aside0.mk (And.intro p0 p1); have HP3 := Aside0.mk (And.intro (pw_cell_below hB4 HP2.out.1) (pw_cell_below hB4 HP2.out.2)); have HB4 := Aside0.mk (HB3.out.trans (hB4.mono HB3.out.size)); clear p0 p1 pl hB4)
    go_upto_region 12 with (go_at_call 12; (refine (Err.law_of p _ _ HC9.out.1 HC9.out.2 _ (GL_at HG.out HB4.out) HP3.out.1 HP3.out.2).mono ?_); rintro e w5 ⟨rfl, hB5⟩; have HP5 := Aside0.mk (And.intro (pw_cell_below hB5 HP4.out.1) (pw_cell_below hB5 HP4.out.2)); have HB5 := Aside0.mk (HB4.out.trans (hB5.mono HB4.out.size)); clear hB5)
    go_wp2_with (go_at_call 12; (refine (Err.law_of p4 _ _ HC9.out.1 HC9.out.2 _ (GL_at HG.out HB5.out) HP5.out.1 HP5.out.2).mono ?_); rintro e w6 ⟨rfl, hB6⟩; have HB6 := Aside0.mk (HB5.out.trans (hB6.mono HB5.out.size)); clear hB6)
    go_ret
    exact ⟨rfl, HB6.out⟩
set_option maxRecDepth 100000 in
set_option maxHeartbeats 8000000 in
theorem gapsOn (W : World) (hG : GL W) (s : ByteArray) (x : Int) (hlo : -9223372036854775808 ≤ x) (hhi : x < 9223372036854775808) (hx : x < 0) (hs : s.size ≤ 20000) (cs : List S36) (hd : scan (bytesOf s) = .ok cs) : Calls Tryd.prog 5 #[.string s, .int .i64 x] W fun e w' => e = .returned (.bool true) ∧ Below W.heap.size W w' := by
    have HG := Aside0.mk hG
    have g1 : decide ((20000 : Int) < (s.size : Int)) = false := decide_eq_false (by omega)
    have n1 : decide (x < 0) = true := decide_eq_true hx
    obtain ⟨y, hy⟩ : ∃ y, y = -(x + 1) := ⟨_, rfl⟩
    have hy0 : 0 ≤ y := by omega
    have E12 := Aside0.mk (And.intro (wn1 hx hlo) (wn2 hx hlo hy))
    obtain ⟨j, hj5, hj⟩ := rem5 hy0
    have HJV := Aside0.mk hj
    clear hj
    have m5 := m5_of hj5
    have HGM := Aside0.mk (gs_mem j hj5)
    obtain ⟨gs, hgs⟩ : ∃ g, g = gsOf j := ⟨_, rfl⟩
    have hsz : gs.size ≤ 15 := by rw [hgs]; exact HGM.out.2
    have CS2 := Aside0.mk (fun W5 : World => by have z := scan_calls W5 (gs ++ s ++ ⟨#[32]⟩ ++ gs) (sz4 hs hsz); rw [scan_about (by rw [hgs]; exact HGM.out.1)] at z; exact z)
    have HJ := Aside0.mk (And.intro hj5 hgs)
    have HS3 := Aside0.mk (sums hs hsz)
    have CS := Aside0.mk (fun W5 : World => scan_calls W5 s (by omega))
    rw [hd] at CS CS2
    have hl := scL_len _ _ _ [] cs (by simp) hd
    have hf := scL_f1 _ _ _ [] cs (by simp) hd
    rw [bytesOf_length] at hf
    obtain ⟨ds, hds⟩ : ∃ ds, ds = cs.map (shift gs.size) := ⟨_, rfl⟩
    have CS2' := Aside0.mk (fun W5 : World => by have z := CS2.out W5; rw [show shiftR gs.size (.ok cs) = .ok ds by rw [hds]; rfl] at z; exact z)
    clear CS2
    have CS2 := CS2'
    clear CS2'
    have hdl : ds.length = cs.length := by rw [hds, List.length_map]
    have CM := Aside0.mk (fun (W5 : World) (A5 : Option Addr) (c5 : Nat) (A6 : Option Addr) (c6 : Nat) (h5 : k36.C W5 A5 cs.length cs) (hc5 : cs.length ≤ c5) (h6 : k36.C W5 A6 ds.length ds) (hc6 : ds.length ≤ c6) => grommetlaw09_Same.calls _ A5 c5 cs A6 c6 ds false true W5 h5 hc5 h6 hc6 (same_f cs ds false (by rw [hds]; exact keys_shift _ _) (by omega)))
    have HF := Aside0.mk (fun (z : Int) (h0 : 0 ≤ z) (h1 : z < (cs.length : Int)) => And.intro (show (rd_T36 ds z).f1 = (rd_T36 cs z).f1 + (gs.size : Int) by rw [hds]; exact f1_shift _ _ _ h0 h1) (wadd (m := s.size) (hf _ (rd_mem cs z h0 h1)).1 (by have := (hf _ (rd_mem cs z h0 h1)).2; simpa using this) hs hsz))
    have HL := Aside0.mk (And.intro hl hdl)
    clear hG hd hs hsz hj5 hgs hy0 hlo hhi hx hl hf hds hdl hy
    obtain ⟨e1, e2⟩ := E12.out
    clear E12
    have hj := HJV.out
    obtain ⟨s1, s2, s3⟩ := HS3.out
    clear HJV HS3
    go_enter Tryd.func5, Tryd.ntmps5
    go_upto_region 8 with (first
      | (go_at_call 6; (refine (up_calls _ HG.out).mono ?_); rintro e w1 ⟨rfl, hB1⟩; have HB1 := Aside0.mk hB1; clear hB1)
      | (go_at_call 7; (refine (CS.out _).mono ?_); rintro e w2 ⟨A2, c2, rfl, hR2, hB2⟩; have HR2 := Aside0.mk (Kd.R_lower hR2 HB1.out.size); have HB2 := Aside0.mk (HB1.out.trans (hB2.mono HB1.out.size)); clear hR2 hB2))
    have hcell := gs_cell w2 j HJ.out.1
    rw [← HJ.out.2] at hcell
    have hB3 : Below W.heap.size W (w2.alloc gsObj) := below_alloc HB2.out _
    have hR3 := Kd.R_alloc HR2.out gsObj
    unfold gsObj at hcell hB3 hR3
    generalize (w2.alloc (.cells #[.string ⟨#[32]⟩, .string ⟨#[9, 13, 10]⟩, .string ⟨#[59, 59, 32, 120, 10]⟩, .string ⟨#[40, 59, 32, 97, 32, 40, 59, 32, 98, 32, 59, 41, 32, 59, 41]⟩, .string ⟨#[40, 59, 59, 41]⟩] 9)) = w3 at hcell hB3 hR3 ⊢
    generalize w2.heap.size = g0 at hcell ⊢
    have HB3 := Aside0.mk hB3
    clear hB3
    have HR3 := Aside0.mk hR3
    clear hR3
    go_upto_region 10 with (go_at_call 7; (refine (CS2.out _).mono ?_); rintro e w4 ⟨A4, c4, rfl, hR4, hB4⟩; have HC4 := Aside0.mk (Kd.R_reads' hR4); have HC2 := Aside0.mk (Kd.R_reads' (Kd.R_below HR3.out hB4)); have HB4 := Aside0.mk (HB3.out.trans (hB4.mono HB3.out.size)); clear hR4 hB4)
    go_wp2_with (go_at_call 10; (refine (CM.out _ _ _ _ _ HC2.out.2.2 HC2.out.2.1 HC4.out.2.2 HC4.out.2.1).mono ?_); rintro e w5 ⟨rfl, hD5⟩; have HB5 := Aside0.mk (HB4.out.trans (hD5.below.mono HB4.out.size)); have HK2 := Aside0.mk (Kd.C_below HC2.out.2.2 hD5.below); have HK4 := Aside0.mk (Kd.C_below HC4.out.2.2 hD5.below); clear hD5)
    go_loopg [16] (cs.length + 1) (fun kq v16 w' => ∃ z : Int, v16 = .int .i64 z ∧ 0 ≤ z ∧ z ≤ (cs.length : Int) ∧ cs.length + 1 ≤ kq + z.toNat ∧ Aside0 (k36.C w' A2 cs.length cs) ∧ Aside0 (k36.C w' A4 ds.length ds) ∧ Aside0 (Below W.heap.size W w'))
    case atStart => exact ⟨0, rfl, by omega, by omega, by simp, ⟨Kd.C_below HK2.out (by repeat (first | exact Below.refl _ _ | apply pw_below_drewN | apply below_drew))⟩, ⟨Kd.C_below HK4.out (by repeat (first | exact Below.refl _ _ | apply pw_below_drewN | apply below_drew))⟩, ⟨(by repeat (first | exact HB5.out | apply below_alloc | apply pw_below_drewN | apply below_drew))⟩⟩
    case round =>
      obtain ⟨z, rfl, h1, h2, h3, HC, HD, HB⟩ := hrel
      cases gk with
      | zero => omega
      | succ k2 =>
        by_cases hlt : z < (cs.length : Int)
        · have c5b0 : decide (z < (cs.length : Int)) = true := decide_eq_true hlt
          have c6b0 : decide (0 ≤ z) = true := decide_eq_true h1
          have hlt2 : z < (ds.length : Int) := by have := HL.out.2; omega
          have c7b0 : decide (z < (ds.length : Int)) = true := decide_eq_true hlt2
          have Q3 := Aside0.mk (show 0 ≤ z + 1 ∧ z + 1 ≤ (cs.length : Int) ∧ cs.length + 1 ≤ k2 + (z + 1).toNat by omega)
          have hw := wplus1 h1 (by have := HL.out.1; omega)
          obtain ⟨f1, f2⟩ := HF.out z h1 hlt
          obtain ⟨ad, ead, x0, x1, x2⟩ := at_T36 HC.out z h1 hlt
          obtain ⟨bd, ebd, y0, y1, y2⟩ := at_T36 HD.out z h1 hlt2
          rw [f1] at y1
          have f3 : ((rd_T36 cs z).f1 + (gs.size : Int) != (rd_T36 cs z).f1 + (gs.size : Int)) = false := bne_self_eq_false _
          cases ead
          cases ebd
          have p1 := eq_true h1
          have q1 := eq_true hlt
          have q2 := eq_true hlt2
          clear f1
          go_wp2
          repeat (go_quiet (fail); try go_wp2)
          go_roundg k2
          case measure => first | exact Nat.lt_succ_self _ | omega
          case rel => exact ⟨z + 1, (by first | rfl | (simp; done) | (simp [*]; done)), Q3.out.1, Q3.out.2.1, Q3.out.2.2, ⟨Kd.C_below HC.out (by repeat (first | exact Below.refl _ _ | apply pw_below_drewN | apply below_drew))⟩, ⟨Kd.C_below HD.out (by repeat (first | exact Below.refl _ _ | apply pw_below_drewN | apply below_drew))⟩, ⟨(by repeat (first | exact HB.out | apply below_alloc | apply pw_below_drewN | apply below_drew))⟩⟩
        · have c5b0 : decide (z < (cs.length : Int)) = false := decide_eq_false hlt
          go_wp2_with fail
          go_ret
          exact ⟨rfl, HB.out⟩
attribute [local go_sem] max2_int min2_int max_two min_two max_three min_three max_four min_four
set_option maxRecDepth 100000 in
set_option maxHeartbeats 8000000 in
theorem gapsEp (W : World) (hG : GL W) (s : ByteArray) (x : Int) (hlo : -9223372036854775808 ≤ x) (hhi : x < 9223372036854775808) (hx : ¬ x < 0) (hs : s.size ≤ 20000) (b : Int) (a : Nat) (hd : scan (bytesOf s) = .error (b, a)) : Calls Tryd.prog 5 #[.string s, .int .i64 x] W fun e w' => e = .returned (.bool true) ∧ Below W.heap.size W w' := by
    have HG := Aside0.mk hG
    have g1 : decide ((20000 : Int) < (s.size : Int)) = false := decide_eq_false (by omega)
    have n1 : decide (x < 0) = false := decide_eq_false hx
    obtain ⟨y, hy⟩ : ∃ y, y = x := ⟨_, rfl⟩
    subst hy
    have hy0 : 0 ≤ y := by omega
    obtain ⟨j, hj5, hj⟩ := rem5 hy0
    have HJV := Aside0.mk hj
    clear hj
    have m5 := m5_of hj5
    have HGM := Aside0.mk (gs_mem j hj5)
    obtain ⟨gs, hgs⟩ : ∃ g, g = gsOf j := ⟨_, rfl⟩
    have hsz : gs.size ≤ 15 := by rw [hgs]; exact HGM.out.2
    have CS2 := Aside0.mk (fun W5 : World => by have z := scan_calls W5 (gs ++ s ++ ⟨#[32]⟩ ++ gs) (sz4 hs hsz); rw [scan_about (by rw [hgs]; exact HGM.out.1)] at z; exact z)
    have HJ := Aside0.mk (And.intro hj5 hgs)
    have HS3 := Aside0.mk (sums hs hsz)
    have CS := Aside0.mk (fun W5 : World => scan_calls W5 s (by omega))
    rw [hd] at CS CS2
    obtain ⟨a2, ha2⟩ : ∃ a2, a2 = a + gs.size := ⟨_, rfl⟩
    have CS2' := Aside0.mk (fun W5 : World => by have z := CS2.out W5; rw [show shiftR gs.size (.error (b, a)) = .error (b, a2) by rw [ha2]; rfl] at z; exact z)
    clear CS2
    have CS2 := CS2'
    clear CS2'
    have hb := scL_err _ _ _ _ _ _ hd
    rw [bytesOf_length] at hb
    have HC9 := Aside0.mk (show 1 ≤ b ∧ b ≤ 9 by rcases hb.1 with rfl | rfl <;> decide)
    have HAT := Aside0.mk ((wadd (a := (a : Int)) (n := gs.size) (m := s.size) (by omega) (by omega) hs hsz).trans (by omega : (a : Int) + (gs.size : Int) = (a2 : Int)))
    have hbb : (b == b) = true := beq_self_eq_true b
    have haa : ((a2 : Int) == (a2 : Int)) = true := beq_self_eq_true _
    clear ha2 hG hd hs hb hsz hj5 hgs hy0 hlo hhi hx
    have hat := HAT.out
    clear HAT
    have hj := HJV.out
    obtain ⟨s1, s2, s3⟩ := HS3.out
    clear HJV HS3
    go_enter Tryd.func5, Tryd.ntmps5
    go_upto_region 8 with (first
      | (go_at_call 6; (refine (up_calls _ HG.out).mono ?_); rintro e w1 ⟨rfl, hB1⟩; have HB1 := Aside0.mk hB1; clear hB1)
      | (go_at_call 7; (refine (CS.out _).mono ?_); rintro e w2 ⟨p, rfl, p0, p1, pl, hB2⟩; have HP := Aside0.mk (And.intro p0 p1); have HB2 := Aside0.mk (HB1.out.trans (hB2.mono HB1.out.size)); clear p0 p1 pl hB2))
    have hcell := gs_cell w2 j HJ.out.1
    rw [← HJ.out.2] at hcell
    have hB3 : Below W.heap.size W (w2.alloc gsObj) := below_alloc HB2.out _
    have hP2 := And.intro (pw_cell_below (below_alloc (Below.refl w2.heap.size w2) gsObj) HP.out.1) (pw_cell_below (below_alloc (Below.refl w2.heap.size w2) gsObj) HP.out.2)
    unfold gsObj at hcell hB3 hP2
    generalize (w2.alloc (.cells #[.string ⟨#[32]⟩, .string ⟨#[9, 13, 10]⟩, .string ⟨#[59, 59, 32, 120, 10]⟩, .string ⟨#[40, 59, 32, 97, 32, 40, 59, 32, 98, 32, 59, 41, 32, 59, 41]⟩, .string ⟨#[40, 59, 59, 41]⟩] 9)) = w3 at hcell hB3 hP2 ⊢
    generalize w2.heap.size = g0 at hcell ⊢
    have HB3 := Aside0.mk hB3
    clear hB3
    have HP2 := Aside0.mk hP2
    clear hP2
    go_upto_region 10 with (go_at_call 7; (refine (CS2.out _).mono ?_); rintro e w4 ⟨p4, rfl, p0, p1, pl, hB4⟩; have HP4 := Aside0.mk (And.intro p0 p1); have HP3 := Aside0.mk (And.intro (pw_cell_below hB4 HP2.out.1) (pw_cell_below hB4 HP2.out.2)); have HB4 := Aside0.mk (HB3.out.trans (hB4.mono HB3.out.size)); clear p0 p1 pl hB4)
    go_upto_region 12 with (go_at_call 12; (refine (Err.law_of p _ _ HC9.out.1 HC9.out.2 _ (GL_at HG.out HB4.out) HP3.out.1 HP3.out.2).mono ?_); rintro e w5 ⟨rfl, hB5⟩; have HP5 := Aside0.mk (And.intro (pw_cell_below hB5 HP4.out.1) (pw_cell_below hB5 HP4.out.2)); have HB5 := Aside0.mk (HB4.out.trans (hB5.mono HB4.out.size)); clear hB5)
    go_wp2_with (go_at_call 12; (refine (Err.law_of p4 _ _ HC9.out.1 HC9.out.2 _ (GL_at HG.out HB5.out) HP5.out.1 HP5.out.2).mono ?_); rintro e w6 ⟨rfl, hB6⟩; have HB6 := Aside0.mk (HB5.out.trans (hB6.mono HB5.out.size)); clear hB6)
    go_ret
    exact ⟨rfl, HB6.out⟩
set_option maxRecDepth 100000 in
set_option maxHeartbeats 8000000 in
theorem gapsOp (W : World) (hG : GL W) (s : ByteArray) (x : Int) (hlo : -9223372036854775808 ≤ x) (hhi : x < 9223372036854775808) (hx : ¬ x < 0) (hs : s.size ≤ 20000) (cs : List S36) (hd : scan (bytesOf s) = .ok cs) : Calls Tryd.prog 5 #[.string s, .int .i64 x] W fun e w' => e = .returned (.bool true) ∧ Below W.heap.size W w' := by
    have HG := Aside0.mk hG
    have g1 : decide ((20000 : Int) < (s.size : Int)) = false := decide_eq_false (by omega)
    have n1 : decide (x < 0) = false := decide_eq_false hx
    obtain ⟨y, hy⟩ : ∃ y, y = x := ⟨_, rfl⟩
    subst hy
    have hy0 : 0 ≤ y := by omega
    obtain ⟨j, hj5, hj⟩ := rem5 hy0
    have HJV := Aside0.mk hj
    clear hj
    have m5 := m5_of hj5
    have HGM := Aside0.mk (gs_mem j hj5)
    obtain ⟨gs, hgs⟩ : ∃ g, g = gsOf j := ⟨_, rfl⟩
    have hsz : gs.size ≤ 15 := by rw [hgs]; exact HGM.out.2
    have CS2 := Aside0.mk (fun W5 : World => by have z := scan_calls W5 (gs ++ s ++ ⟨#[32]⟩ ++ gs) (sz4 hs hsz); rw [scan_about (by rw [hgs]; exact HGM.out.1)] at z; exact z)
    have HJ := Aside0.mk (And.intro hj5 hgs)
    have HS3 := Aside0.mk (sums hs hsz)
    have CS := Aside0.mk (fun W5 : World => scan_calls W5 s (by omega))
    rw [hd] at CS CS2
    have hl := scL_len _ _ _ [] cs (by simp) hd
    have hf := scL_f1 _ _ _ [] cs (by simp) hd
    rw [bytesOf_length] at hf
    obtain ⟨ds, hds⟩ : ∃ ds, ds = cs.map (shift gs.size) := ⟨_, rfl⟩
    have CS2' := Aside0.mk (fun W5 : World => by have z := CS2.out W5; rw [show shiftR gs.size (.ok cs) = .ok ds by rw [hds]; rfl] at z; exact z)
    clear CS2
    have CS2 := CS2'
    clear CS2'
    have hdl : ds.length = cs.length := by rw [hds, List.length_map]
    have CM := Aside0.mk (fun (W5 : World) (A5 : Option Addr) (c5 : Nat) (A6 : Option Addr) (c6 : Nat) (h5 : k36.C W5 A5 cs.length cs) (hc5 : cs.length ≤ c5) (h6 : k36.C W5 A6 ds.length ds) (hc6 : ds.length ≤ c6) => grommetlaw09_Same.calls _ A5 c5 cs A6 c6 ds false true W5 h5 hc5 h6 hc6 (same_f cs ds false (by rw [hds]; exact keys_shift _ _) (by omega)))
    have HF := Aside0.mk (fun (z : Int) (h0 : 0 ≤ z) (h1 : z < (cs.length : Int)) => And.intro (show (rd_T36 ds z).f1 = (rd_T36 cs z).f1 + (gs.size : Int) by rw [hds]; exact f1_shift _ _ _ h0 h1) (wadd (m := s.size) (hf _ (rd_mem cs z h0 h1)).1 (by have := (hf _ (rd_mem cs z h0 h1)).2; simpa using this) hs hsz))
    have HL := Aside0.mk (And.intro hl hdl)
    clear hG hd hs hsz hj5 hgs hy0 hlo hhi hx hl hf hds hdl
    have hj := HJV.out
    obtain ⟨s1, s2, s3⟩ := HS3.out
    clear HJV HS3
    go_enter Tryd.func5, Tryd.ntmps5
    go_upto_region 8 with (first
      | (go_at_call 6; (refine (up_calls _ HG.out).mono ?_); rintro e w1 ⟨rfl, hB1⟩; have HB1 := Aside0.mk hB1; clear hB1)
      | (go_at_call 7; (refine (CS.out _).mono ?_); rintro e w2 ⟨A2, c2, rfl, hR2, hB2⟩; have HR2 := Aside0.mk (Kd.R_lower hR2 HB1.out.size); have HB2 := Aside0.mk (HB1.out.trans (hB2.mono HB1.out.size)); clear hR2 hB2))
    have hcell := gs_cell w2 j HJ.out.1
    rw [← HJ.out.2] at hcell
    have hB3 : Below W.heap.size W (w2.alloc gsObj) := below_alloc HB2.out _
    have hR3 := Kd.R_alloc HR2.out gsObj
    unfold gsObj at hcell hB3 hR3
    generalize (w2.alloc (.cells #[.string ⟨#[32]⟩, .string ⟨#[9, 13, 10]⟩, .string ⟨#[59, 59, 32, 120, 10]⟩, .string ⟨#[40, 59, 32, 97, 32, 40, 59, 32, 98, 32, 59, 41, 32, 59, 41]⟩, .string ⟨#[40, 59, 59, 41]⟩] 9)) = w3 at hcell hB3 hR3 ⊢
    generalize w2.heap.size = g0 at hcell ⊢
    have HB3 := Aside0.mk hB3
    clear hB3
    have HR3 := Aside0.mk hR3
    clear hR3
    go_upto_region 10 with (go_at_call 7; (refine (CS2.out _).mono ?_); rintro e w4 ⟨A4, c4, rfl, hR4, hB4⟩; have HC4 := Aside0.mk (Kd.R_reads' hR4); have HC2 := Aside0.mk (Kd.R_reads' (Kd.R_below HR3.out hB4)); have HB4 := Aside0.mk (HB3.out.trans (hB4.mono HB3.out.size)); clear hR4 hB4)
    go_wp2_with (go_at_call 10; (refine (CM.out _ _ _ _ _ HC2.out.2.2 HC2.out.2.1 HC4.out.2.2 HC4.out.2.1).mono ?_); rintro e w5 ⟨rfl, hD5⟩; have HB5 := Aside0.mk (HB4.out.trans (hD5.below.mono HB4.out.size)); have HK2 := Aside0.mk (Kd.C_below HC2.out.2.2 hD5.below); have HK4 := Aside0.mk (Kd.C_below HC4.out.2.2 hD5.below); clear hD5)
    go_loopg [16] (cs.length + 1) (fun kq v16 w' => ∃ z : Int, v16 = .int .i64 z ∧ 0 ≤ z ∧ z ≤ (cs.length : Int) ∧ cs.length + 1 ≤ kq + z.toNat ∧ Aside0 (k36.C w' A2 cs.length cs) ∧ Aside0 (k36.C w' A4 ds.length ds) ∧ Aside0 (Below W.heap.size W w'))
    case atStart => exact ⟨0, rfl, by omega, by omega, by simp, ⟨Kd.C_below HK2.out (by repeat (first | exact Below.refl _ _ | apply pw_below_drewN | apply below_drew))⟩, ⟨Kd.C_below HK4.out (by repeat (first | exact Below.refl _ _ | apply pw_below_drewN | apply below_drew))⟩, ⟨(by repeat (first | exact HB5.out | apply below_alloc | apply pw_below_drewN | apply below_drew))⟩⟩
    case round =>
      obtain ⟨z, rfl, h1, h2, h3, HC, HD, HB⟩ := hrel
      cases gk with
      | zero => omega
      | succ k2 =>
        by_cases hlt : z < (cs.length : Int)
        · have c5b0 : decide (z < (cs.length : Int)) = true := decide_eq_true hlt
          have c6b0 : decide (0 ≤ z) = true := decide_eq_true h1
          have hlt2 : z < (ds.length : Int) := by have := HL.out.2; omega
          have c7b0 : decide (z < (ds.length : Int)) = true := decide_eq_true hlt2
          have Q3 := Aside0.mk (show 0 ≤ z + 1 ∧ z + 1 ≤ (cs.length : Int) ∧ cs.length + 1 ≤ k2 + (z + 1).toNat by omega)
          have hw := wplus1 h1 (by have := HL.out.1; omega)
          obtain ⟨f1, f2⟩ := HF.out z h1 hlt
          obtain ⟨ad, ead, x0, x1, x2⟩ := at_T36 HC.out z h1 hlt
          obtain ⟨bd, ebd, y0, y1, y2⟩ := at_T36 HD.out z h1 hlt2
          rw [f1] at y1
          have f3 : ((rd_T36 cs z).f1 + (gs.size : Int) != (rd_T36 cs z).f1 + (gs.size : Int)) = false := bne_self_eq_false _
          cases ead
          cases ebd
          have p1 := eq_true h1
          have q1 := eq_true hlt
          have q2 := eq_true hlt2
          clear f1
          go_wp2
          repeat (go_quiet (fail); try go_wp2)
          go_roundg k2
          case measure => first | exact Nat.lt_succ_self _ | omega
          case rel => exact ⟨z + 1, (by first | rfl | (simp; done) | (simp [*]; done)), Q3.out.1, Q3.out.2.1, Q3.out.2.2, ⟨Kd.C_below HC.out (by repeat (first | exact Below.refl _ _ | apply pw_below_drewN | apply below_drew))⟩, ⟨Kd.C_below HD.out (by repeat (first | exact Below.refl _ _ | apply pw_below_drewN | apply below_drew))⟩, ⟨(by repeat (first | exact HB.out | apply below_alloc | apply pw_below_drewN | apply below_drew))⟩⟩
        · have c5b0 : decide (z < (cs.length : Int)) = false := decide_eq_false hlt
          go_wp2_with fail
          go_ret
          exact ⟨rfl, HB.out⟩
set_option maxRecDepth 100000 in
theorem gaps (W : World) (hG : GL W) (s : ByteArray) (x : Int) (hw : (Lit.int .i64 x).wf = true) : Calls Tryd.prog 5 #[.string s, .int .i64 x] W fun e w' => e = .returned (.bool true) ∧ Below W.heap.size W w' := by
  have hr : -9223372036854775808 ≤ x ∧ x < 9223372036854775808 := by have h := hw; simp [Lit.wf, IntKind.min, IntKind.max, IntKind.signed, IntKind.bits] at h; omega
  by_cases hs : s.size ≤ 20000
  · cases hd : scan (bytesOf s) with
    | error q =>
      by_cases hx : x < 0
      · exact gapsEn W hG s x hr.1 hr.2 hx hs q.1 q.2 hd
      · exact gapsEp W hG s x hr.1 hr.2 hx hs q.1 q.2 hd
    | ok cs =>
      by_cases hx : x < 0
      · exact gapsOn W hG s x hr.1 hr.2 hx hs cs hd
      · exact gapsOp W hG s x hr.1 hr.2 hx hs cs hd
  · have HG := Aside0.mk hG
    have g1 : decide ((20000 : Int) < (s.size : Int)) = true := decide_eq_true (by omega)
    clear hG hs hr hw
    go_enter Tryd.func5, Tryd.ntmps5
    go_wp2_with (go_at_call 6; (refine (up_calls _ HG.out).mono ?_); rintro e w1 ⟨rfl, hB1⟩; have HB1 := Aside0.mk hB1; clear hB1)
    go_ret
    exact ⟨rfl, HB1.out⟩
end Go.Proofs.YtaidpcmndmjceaaDoor.Lx
