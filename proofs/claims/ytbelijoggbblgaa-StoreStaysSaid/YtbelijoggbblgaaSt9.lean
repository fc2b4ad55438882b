import Derived.Test.YtbelijoggbblgaaSt8
namespace Go.Proofs.Ytbelijoggbblgaa.St
open Go.RowKit Go.Proofs.YtbelijoggbblgaaW.PrintWords Go.Proofs.YtbelijoggbblgaaW.PrintLast Go.Proofs.YtbelijoggbblgaaW.PrintMore Go.Proofs.Ytbelijoggbblgaa.PStorePlays
set_option linter.unusedVariables false
set_option linter.unusedSimpArgs false
/-- What stands from the first table on: the law's box, and the store. -/
structure Ctx (W : World) (base s : Nat) (bx : Array Value) (w : World) (F : List S32) (G : List S41) (AF : Option Addr) (cF : Nat) (AT : Option Addr) (cT : Nat) (AG : Option Addr) (cG : Nat) : Prop where
  box : Row w W.heap.size 25 bx
  st : St w base s (.slice AF F.length cF) (.slice AT 1 cT) (.slice none 0 0) (.slice AG G.length cG) (.slice none 0 0) F [⟨[-1, -1, -1], -1⟩] G
  bl : Below W.heap.size W w
  sz : base ≤ w.heap.size
theorem Ctx.below {W : World} {base s : Nat} {bx : Array Value} {w w' : World} {F : List S32} {G : List S41} {AF : Option Addr} {cF : Nat} {AT : Option Addr} {cT : Nat} {AG : Option Addr} {cG : Nat} (h : Ctx W base s bx w F G AF cF AT cT AG cG) (hb : Below w.heap.size w w') : Ctx W base s bx w' F G AF cF AT cT AG cG :=
  ⟨h.box.below hb h.box.lt, h.st.below hb, h.bl.trans (below_mono hb h.bl.size), Nat.le_trans h.sz hb.size⟩
theorem Ctx.fAdd {W : World} {base s : Nat} {bx : Array Value} {w w' : World} {F F2 : List S32} {G : List S41} {AF AF2 : Option Addr} {cF cF2 : Nat} {AT : Option Addr} {cT : Nat} {AG : Option Addr} {cG : Nat} (h : Ctx W base s bx w F G AF cF AT cT AG cG) (hs : W.heap.size < s)
    (hS : St w' base s (.slice AF2 F2.length cF2) (.slice AT 1 cT) (.slice none 0 0) (.slice AG G.length cG) (.slice none 0 0) F2 [⟨[-1, -1, -1], -1⟩] G) (hO : Only w w' (fun k => k = s ∨ blk AF = some k)) : Ctx W base s bx w' F2 G AF2 cF2 AT cT AG cG := by
  have hbk : ∀ k, blk AF = some k → base ≤ k := fun k hk => Kd.R_base h.st.f k (by rw [ownBlock_slice]; exact hk)
  have hlo := h.st.lo
  exact ⟨(hO.block _ h.box.lt (by rintro (e | e); omega; have := hbk _ e; omega)).trans h.box, hS, hO.below h.bl h.bl.size (by rintro i (rfl | e); omega; have := hbk _ e; omega), Nat.le_trans h.sz hO.size⟩
theorem Ctx.gAdd {W : World} {base s : Nat} {bx : Array Value} {w w' : World} {F : List S32} {G G2 : List S41} {AF : Option Addr} {cF : Nat} {AT : Option Addr} {cT : Nat} {AG AG2 : Option Addr} {cG cG2 : Nat} (h : Ctx W base s bx w F G AF cF AT cT AG cG) (hs : W.heap.size < s)
    (hS : St w' base s (.slice AF F.length cF) (.slice AT 1 cT) (.slice none 0 0) (.slice AG2 G2.length cG2) (.slice none 0 0) F [⟨[-1, -1, -1], -1⟩] G2) (hO : Only w w' (fun k => k = s ∨ blk AG = some k)) : Ctx W base s bx w' F G2 AF cF AT cT AG2 cG2 := by
  have hbk : ∀ k, blk AG = some k → base ≤ k := fun k hk => Kd.R_base h.st.g k (by rw [ownBlock_slice]; exact hk)
  have hlo := h.st.lo
  exact ⟨(hO.block _ h.box.lt (by rintro (e | e); omega; have := hbk _ e; omega)).trans h.box, hS, hO.below h.bl h.bl.size (by rintro i (rfl | e); omega; have := hbk _ e; omega), Nat.le_trans h.sz hO.size⟩
theorem Deed.below {W w : World} {a : Addr} {what n1 at_ inst fn ans lo hi ty v : Int} {has mu : Bool} {P R : Option Addr} {cp cr : Nat} {ps rs : List Int} (h : Deed W a what n1 at_ inst fn ans lo hi ty v has mu P R cp cr ps rs) (hb : Below W.heap.size W w) : Deed w a what n1 at_ inst fn ans lo hi ty v has mu P R cp cr ps rs := by
  have k : ∀ {j : Nat} {u : Value}, W.cell? ⟨a.block, j, none⟩ = some u → w.cell? ⟨a.block, j, none⟩ = some u := fun {j} _ hc => (World.cell?_of_block (a := ⟨a.block, j, none⟩) (hb.block a.block h.lt)).trans hc
  exact ⟨h.w0, h.w1, Nat.lt_of_lt_of_le h.lt hb.size, (World.cell?_of_block (hb.block a.block h.lt)).trans h.d0, k h.d1, k h.d2, k h.d3, k h.d4, k h.d5, k h.d6, k h.d7, k h.d8, k h.d9, k h.d10, k h.d11, k h.d12, k h.d13, Kd.C_below h.cP hb, h.lP, h.kP, Kd.C_below h.cR hb, h.lR, h.kR⟩
/-- A store into a block between the law's box and the store's rows, but the record. -/
theorem Ctx.far {W : World} {base s : Nat} {bx : Array Value} {w : World} {F : List S32} {G : List S41} {AF : Option Addr} {cF : Nat} {AT : Option Addr} {cT : Nat} {AG : Option Addr} {cG : Nat} (h : Ctx W base s bx w F G AF cF AT cT AG cG) {p : Addr} (h1 : W.heap.size < p.block) (h2 : p.block < base) (h3 : p.block ≠ s) (u : Value) : Ctx W base s bx (w.setCell p u) F G AF cF AT cT AG cG :=
  ⟨h.box.off (by omega) u, h.st.far h2 h3 u, h.bl.setCell (Nat.le_of_lt h1) u, by simpa using h.sz⟩
theorem tail_func {W : World} {base s : Nat} {bx : Array Value} {w : World} {xs ys : List Int} {n : Int} {F' : List S32} {G : List S41} {AF : Option Addr} {cF : Nat} {AT : Option Addr} {cT : Nat} {AG : Option Addr} {cG : Nat} (h : Ctx W base s bx w (⟨⟨xs, ys⟩, 0, n, 0⟩ :: F') G AF cF AT cT AG cG) (hF : F'.length ≤ 60) (lx : xs.length ≤ 300) (ly : ys.length ≤ 300) :
    ∀ W5 : World, Below w.heap.size w W5 → Calls Try.prog 12 #[.pointer (some ⟨s, 0, none⟩), .int .i64 0] W5 fun e w' => ∃ A1 c1 A2 c2, e = .returned (.tuple #[.agg #[.slice A1 xs.length c1, .slice A2 ys.length c2, .int .i64 0, .int .i64 n, .int .u64 0], .bool true]) ∧
      I64.R 3 w' W5.heap.size (fun _ => True) (.slice A1 xs.length c1) xs ∧ I64.R 3 w' W5.heap.size (fun _ => True) (.slice A2 ys.length c2) ys ∧ Below W5.heap.size W5 w' :=
  fun W5 h5 => func_in (h.below h5).st 0 (Nat.zero_lt_succ _) (by simp only [List.length_cons]; omega) ⟨⟨xs, ys⟩, 0, n, 0⟩ rfl (by show xs.length * 8 ≤ _; omega) (by show ys.length * 8 ≤ _; omega)
theorem tail_table {W : World} {base s : Nat} {bx : Array Value} {w : World} {F : List S32} {G : List S41} {AF : Option Addr} {cF : Nat} {AT : Option Addr} {cT : Nat} {AG : Option Addr} {cG : Nat} (h : Ctx W base s bx w F G AF cF AT cT AG cG) :
    ∀ W5 : World, Below w.heap.size w W5 → Calls Try.prog 13 #[.pointer (some ⟨s, 0, none⟩), .int .i64 0] W5 fun e w' => ∃ A1 c1, e = .returned (.tuple #[.slice A1 3 c1, .bool true]) ∧ I64.R 3 w' W5.heap.size (fun _ => True) (.slice A1 3 c1) [-1, -1, -1] ∧ Below W5.heap.size W5 w' :=
  fun W5 h5 => table_in (T := [⟨[-1, -1, -1], -1⟩]) (h.below h5).st 0 (Nat.zero_lt_succ 0) (by decide) ⟨[-1, -1, -1], -1⟩ rfl (by decide)
theorem lit3 {w : World} {g : Nat} {t : TypeId} (h : Row w g t #[.int .i64 (-1), .int .i64 (-1), .int .i64 (-1)]) : I64.C w (some ⟨g, 0, none⟩) ([-1, -1, -1] : List Int).length [-1, -1, -1] :=
  Kd.C_of_reads (enc := Value.int .i64) (d := (0 : Int)) (h1 := fun _ => rfl) ⟨rfl, by decide, fun _ => ⟨_, rfl, fun j hj => by
    rw [add_plain, h.cell j]
    match j, hj with
    | 0, _ => rfl
    | 1, _ => rfl
    | 2, _ => rfl⟩⟩
theorem below_bits_refl (w : World) : Below w.heap.size w w := Below.refl _ _
theorem len_ok {k i m n : Nat} (h : k ≤ i) (e : i + (m + 1) = min n 60) : k + 1 ≤ 100 := by omega
theorem len_ok' {k i m n : Nat} (h : k ≤ i) (e : i + (m + 1) = min n 60) : k ≤ 100 := by omega
set_option maxRecDepth 100000 in
set_option maxHeartbeats 8000000 in
theorem stays_in (W : World) (S : Option Addr) (ns cs : Nat) (hns : ns ≤ cs) (hcs : cs ≤ 9223372036854775807) (sc : Script W S ns) (A : Option Addr) (c : Nat) (xs : List Int) (hx : I64.C W A xs.length xs) (hc : xs.length ≤ c) (B : Option Addr) (d : Nat) (ys : List Int) (hy : I64.C W B ys.length ys) (hd : ys.length ≤ d) (n : Int) (lx : xs.length ≤ 300) (ly : ys.length ≤ 300) :
    Calls Try.prog 3 #[.slice S ns cs, .agg #[.slice A xs.length c, .slice B ys.length d], .int .i64 n] W fun e w' => e = .returned (.bool true) ∧ Below W.heap.size W w' := by
  have g1 : decide ((300 : Int) < (xs.length : Int)) = false := decide_eq_false (by omega)
  have g2 : decide ((300 : Int) < (ys.length : Int)) = false := decide_eq_false (by omega)
  have HX := Aside0.mk hx
  have HY := Aside0.mk hy
  have HSC := Aside0.mk sc
  have HL := Aside0.mk (And.intro lx ly)
  clear hx hy sc lx ly
  go_enter Try.func3, Try.ntmps3
  go_upto_region 7 with (first
    | (go_at_call 6; (refine (up_calls _).mono ?_); rintro e w1 ⟨rfl, hB1⟩; have r1 : Row w1 W.heap.size 25 #[.slice A xs.length c, .slice B ys.length d] := (Row.made W 25 _ rfl).below hB1 (by simp); have q0 := r1.cell 0; have q1 := r1.cell 1; simp only [List.getElem?_toArray, List.getElem?_cons_zero, List.getElem?_cons_succ] at q0 q1)
    | (go_at_call 7; (refine (new_calls _).mono ?_); rintro e w2 ⟨rfl, rs2, hB2, hz2⟩; have r2 := r1.below hB2 r1.lt; have q2 := r2.cell 0; have q3 := r2.cell 1; simp only [List.getElem?_toArray, List.getElem?_cons_zero, List.getElem?_cons_succ] at q2 q3))
  go_cut [9] from 40 to 48 (fun v9 wx => Own w2 xs ys v9 wx)
  case first =>
    have b2 : Below W.heap.size W w2 := (below_mono hB1 (by simp)).trans (below_mono hB2 (by have := hB1.size; simp at this; omega)) |> fun h => (below_alloc (Below.refl _ _) _).trans h
    have HX2 := Aside0.mk (Kd.C_below HX.out b2)
    have HY2 := Aside0.mk (Kd.C_below HY.out b2)
    have HB2 := Aside0.mk b2
    have RR := Aside0.mk r2
    clear b2 r1 r2 q0 q1 hB1 hB2 rs2 hz2
    have n2 := World.new_ne _ _ q2
    have n3 := World.new_ne _ _ q3
    have L2 := Aside0.mk RR.out.lt
    go_region_held3 (fun w' => w'.cell? ⟨W.heap.size, 0, none⟩ = some (.slice A xs.length c) ∧ w'.cell? ⟨W.heap.size, 1, none⟩ = some (.slice B ys.length d))
      ((go_split_ands; refine ⟨?_, ?_⟩) <;> first | (simp; done) | assumption | (go_keep; done) | exact cell_alloc (by first | assumption | exact q2 | exact q3) _ | exact cell_alloc (cell_alloc (by first | assumption | exact q2 | exact q3) _) _ | exact cell_alloc (cell_alloc (cell_alloc (by first | assumption | exact q2 | exact q3) _) _) _ | (rw [World.cell?_setCell_far _ _ _ _ (by (first | (have := L2.out; have := L7.out; have := L8.out; simp; omega) | (have := L2.out; have := L8.out; simp; omega) | (have := L2.out; have := L7.out; simp; omega) | (have := L2.out; simp; omega))), World.cell?_setCell_far _ _ _ _ (by (first | (have := L2.out; have := L7.out; have := L8.out; simp; omega) | (have := L2.out; have := L8.out; simp; omega) | (have := L2.out; have := L7.out; simp; omega) | (have := L2.out; simp; omega)))]; first | assumption | (go_keep; done)))
      (first
      | (refine step_copy (by rfl) (.tmp 40) (.tmp 42) rfl _ rfl rfl (Kd.C_below HX2.out (by repeat (first | exact Below.refl _ _ | assumption | apply below_alloc | apply below_drew))) hc HL.out.1 ?_
         rintro A7 c7 w7 hP7 hB7
         have hQ7 := hP7.lower (Below.size (B := w2.heap.size) (w := w2) (by repeat (first | exact Below.refl _ _ | assumption | apply below_alloc | apply below_drew)))
         have bb : Below w2.heap.size w2 w7 := below_next (by repeat (first | exact Below.refl _ _ | assumption | apply below_alloc | apply below_drew)) hB7
         have r7 := RR.out.below bb RR.out.lt
         have q7 := r7.cell 0
         have q7' := r7.cell 1
         simp only [List.getElem?_toArray, List.getElem?_cons_zero, List.getElem?_cons_succ] at q7 q7'
         have n7 := World.new_ne _ _ q7
         have n7' := World.new_ne _ _ q7'
         have L7 := Aside0.mk bb.size
         (first
           | have hO := Row.below' hB7 (Row.made _ 25 _ rfl)
           | have hO := Row.below' hB7 ((Row.made _ 25 _ rfl).alloc _)
           | have hO := Row.below' hB7 (((Row.made _ 25 _ rfl).alloc _).alloc _)
           | have hO := Row.below' hB7 hO
           | have hO := Row.below' hB7 (hO.alloc _)
           | skip)
         try (have o0 := hO.cell 0; have o1 := hO.cell 1; have z0 := hO.frozen 0; have z1 := hO.frozen 1; simp at o0 o1 z0 z1))
      | (refine step_copy (by rfl) (.tmp 44) (.tmp 46) rfl _ rfl rfl (Kd.C_below HY2.out (by repeat (first | exact Below.refl _ _ | assumption | apply below_alloc | apply below_drew))) hd HL.out.2 ?_
         rintro A8 c8 w8 hP8 hB8
         have hQ8 := hP8.lower (Below.size (B := w2.heap.size) (w := w2) (by repeat (first | exact Below.refl _ _ | assumption | apply below_alloc | apply below_drew)))
         have hQ := hQ7.below (below_next (w2 := w7) (by repeat (first | exact Below.refl _ _ | apply below_alloc | apply below_drew)) hB8)
         have bb : Below w2.heap.size w2 w8 := below_next (by repeat (first | exact Below.refl _ _ | assumption | apply below_alloc | apply below_drew)) hB8
         have r8 := RR.out.below bb RR.out.lt
         have q8 := r8.cell 0
         have q8' := r8.cell 1
         simp only [List.getElem?_toArray, List.getElem?_cons_zero, List.getElem?_cons_succ] at q8 q8'
         have n8 := World.new_ne _ _ q8
         have n8' := World.new_ne _ _ q8'
         have L8 := Aside0.mk bb.size
         (first
           | have hO := Row.below' hB8 (Row.made _ 25 _ rfl)
           | have hO := Row.below' hB8 ((Row.made _ 25 _ rfl).alloc _)
           | have hO := Row.below' hB8 (((Row.made _ 25 _ rfl).alloc _).alloc _)
           | have hO := Row.below' hB8 hO
           | have hO := Row.below' hB8 (hO.alloc _)
           | skip)
         try (have o0 := hO.cell 0; have o1 := hO.cell 1; have z0 := hO.frozen 0; have z1 := hO.frozen 1; simp at o0 o1 z0 z1)))
    all_goals (have LL := L7.out; have LM := L8.out; go_wp2_with fail)
    all_goals go_meet
    all_goals first
      | exact Own.form1 hQ hQ8 bb
      | exact Own.form2 hQ hQ8 bb hO (by omega)
      | exact Own.form2 hQ hQ8 bb (by simpa using hO) (by omega)
  case rest =>
    obtain ⟨o, A1, c1, B1, d1, rfl, ho, hr, hA, hBB, hBe⟩ := hcut
    have hs1 : w1.heap.size < w2.heap.size := rs2.lt
    have hS0 : St wc wc.heap.size w1.heap.size (.slice none 0 0) (.slice none 0 0) (.slice none 0 0) (.slice none 0 0) (.slice none 0 0) [] [] [] := St.new (Nat.lt_of_lt_of_le hs1 hBe.size) (rs2.below hBe hs1)
    have a8 : Calls Try.prog 8 #[.pointer (some ⟨w1.heap.size, 0, none⟩), .agg #[.slice A1 xs.length c1, .slice B1 ys.length d1, .int .i64 0, .int .i64 n, .int .u64 0]] wc fun e w' => e = .returned (.int .i64 0) ∧ ∃ AF' cF', St w' wc.heap.size w1.heap.size (.slice AF' 1 cF') (.slice none 0 0) (.slice none 0 0) (.slice none 0 0) (.slice none 0 0) [⟨⟨xs, ys⟩, 0, n, 0⟩] [] [] ∧ Only wc w' (fun k => k = w1.heap.size) := by
      refine (addFunc_calls (F := []) (AF := none) (cF := 0) hS0 (Nat.le_refl _) (by decide) hA.rd hA.le (by have := HL.out.1; omega) hBB.rd hBB.le (by have := HL.out.2; omega) 0 n 0).mono ?_
      rintro e w' ⟨he, AF', cF', hS, hO⟩
      exact ⟨he, AF', cF', hS, ⟨hO.os, hO.tape, hO.output, hO.size, fun k hk hne => hO.block k hk (by rintro (h | h); exact hne h; cases h)⟩⟩
    have H8 := Aside0.mk a8
    clear a8
    have q9 := hr.cell 0
    have q9' := hr.cell 1
    simp only [List.getElem?_toArray, List.getElem?_cons_zero, List.getElem?_cons_succ] at q9 q9'
    have HO := Aside0.mk hr
    have HA := Aside0.mk hA
    have HBB := Aside0.mk hBB
    have HBe := Aside0.mk hBe
    have HSZ := Aside0.mk (And.intro ho hs1)
    have HR2 := Aside0.mk r2
    have HB12 := Aside0.mk (And.intro hB1 hB2)
    clear hr hA hBB hBe ho hs1 hS0 r1 r2 q0 q1 q2 q3 hB1 hB2 rs2 hz2
    go_upto_block 0 with (first
      | (go_at_call 8; (with_reducible refine H8.out.mono ?_); rintro e w3 ⟨rfl, AF, cF, hS3, hO3⟩; have HS3 := Aside0.mk hS3; have HO3 := Aside0.mk hO3; clear hS3 hO3)
      | (go_at_call 9; (refine (addTable_yes (T := []) (AT := none) (cT := 0) HS3.out HO3.out.size (by decide) 3 0 false ⟨by decide, by decide, fun h => by cases h⟩).mono ?_); rintro e w4 ⟨rfl, AT, cT, hS4, hO4⟩; have HS4 := Aside0.mk hS4; have HO4 := Aside0.mk hO4; clear hS4 hO4))
    have hC4 : Ctx W wc.heap.size w1.heap.size #[.slice A xs.length c, .slice B ys.length d] w4 [⟨⟨xs, ys⟩, 0, n, 0⟩] [] AF cF AT cT none 0 := by
      have b3 : Below wc.heap.size wc w4 → True := fun _ => trivial
      have k34 : ∀ k, k < wc.heap.size → k ≠ w1.heap.size → w4.heap[k]? = wc.heap[k]? := fun k hk hne => (HO4.out.block k (Nat.lt_of_lt_of_le hk HO3.out.size) (by rintro (h | h); exact hne h; cases h)).trans (HO3.out.block k hk hne)
      have hw2 : w2.heap.size ≤ wc.heap.size := HBe.out.size
      have hWs : W.heap.size < w1.heap.size := by have := HB12.out.1.size; simp at this; omega
      have hbW : Below W.heap.size W w2 := (below_alloc (Below.refl _ _) _).trans (below_mono (HB12.out.1.trans (below_mono HB12.out.2 HB12.out.1.size)) (by simp))
      refine ⟨?_, HS4.out, ?_, Nat.le_trans HO3.out.size HO4.out.size⟩
      · have h1 := HR2.out.below HBe.out HR2.out.lt
        exact (k34 _ h1.lt (by omega)).trans h1
      · refine ⟨HO4.out.os.trans (HO3.out.os.trans (HBe.out.os.trans hbW.os)), HO4.out.tape.trans (HO3.out.tape.trans (HBe.out.tape.trans hbW.tape)), HO4.out.output.trans (HO3.out.output.trans (HBe.out.output.trans hbW.output)), Nat.le_trans hbW.size (Nat.le_trans hw2 (Nat.le_trans HO3.out.size HO4.out.size)), fun k hk => ?_⟩
        have hk2 := hbW.size
        exact (k34 k (by omega) (by omega)).trans ((HBe.out.block k (by omega)).trans (hbW.block k hk))
    have k34 : ∀ k, k < wc.heap.size → k ≠ w1.heap.size → w4.heap[k]? = wc.heap[k]? := fun k hk hne => (HO4.out.block k (Nat.lt_of_lt_of_le hk HO3.out.size) (by rintro (h | h); exact hne h; cases h)).trans (HO3.out.block k hk hne)
    have hr4 : Row w4 o 25 #[.slice A1 xs.length c1, .slice B1 ys.length d1] := (k34 o HO.out.lt (by have := HSZ.out; omega)).trans HO.out
    have hA4 : 0 < xs.length → I64.R 3 w4 w2.heap.size (fun k => k < wc.heap.size) (.slice A1 xs.length c1) xs := fun hp =>
      Kd.R_mono (Kd.R_move (Kd.R_bound (HA.out.own hp)) (fun k hk => k34 k hk.2.2.1 (by have := hk.2.1; have := HSZ.out; omega))) (fun k hk => hk.2.2.1)
    have HC4 := Aside0.mk hC4
    have HW := Aside0.mk (show W.heap.size < w1.heap.size by have := HB12.out.1.size; simp at this; omega)
    clear hC4 k34
    go_wp2_with fail
    go_loopg [13] xs.length (fun kq v13 w' => ∃ (j : Nat), v13 = .int .i64 j ∧ j + kq = xs.length ∧ Row w' o 25 #[.slice A1 xs.length c1, .slice B1 ys.length d1] ∧ (∃ zs : List Int, 0 < xs.length → I64.R 3 w' w2.heap.size (fun k => k < wc.heap.size) (.slice A1 xs.length c1) zs) ∧ Ctx W wc.heap.size w1.heap.size #[.slice A xs.length c, .slice B ys.length d] w' [⟨⟨xs, ys⟩, 0, n, 0⟩] [] AF cF AT cT none 0)
    case atStart => exact ⟨0, rfl, by omega, hr4, ⟨xs, hA4⟩, HC4.out⟩
    case round =>
      obtain ⟨j, rfl, hj, hrr, ⟨zs, hz⟩, hC⟩ := hrel
      have q5 := hrr.cell 0
      simp only [List.getElem?_toArray, List.getElem?_cons_zero, List.getElem?_cons_succ] at q5
      cases gk with
      | zero =>
        have hnlt : ((j : Int) < (xs.length : Int)) = False := eq_false (by omega)
        have HC5 := Aside0.mk hC
        clear hC hz hrr hr4 hA4
        go_upto_block 2 with fail
        go_cut [14, 15] from 71 to 104 (fun _ _ wx => ∃ (base : Nat) (F' : List S32) (G : List S41) (AF : Option Addr) (cF : Nat) (AG : Option Addr) (cG : Nat), F'.length ≤ 60 ∧ Ctx W base w1.heap.size #[.slice A xs.length c, .slice B ys.length d] wx (⟨⟨xs, ys⟩, 0, n, 0⟩ :: F') G AF cF AT cT AG cG)
        case first =>
          go_wp2_with fail
          go_loopg [14] (min ns 60) (fun kq v14 w' => ∃ (i : Nat) (F' : List S32) (G : List S41) (AF : Option Addr) (cF : Nat) (AG : Option Addr) (cG : Nat), v14 = .int .i64 i ∧ i + kq = min ns 60 ∧ F'.length ≤ i ∧ G.length ≤ i ∧ Ctx W wc.heap.size w1.heap.size #[.slice A xs.length c, .slice B ys.length d] w' (⟨⟨xs, ys⟩, 0, n, 0⟩ :: F') G AF cF AT cT AG cG)
          case atStart => exact ⟨0, [], [], AF, cF, none, 0, rfl, by omega, Nat.le_refl _, Nat.le_refl _, HC5.out⟩
          case round =>
            obtain ⟨i, F', G, AF2, cF2, AG2, cG2, rfl, hi, hF, hG, hC⟩ := hrel
            cases gk with
            | zero =>
              have HC6 := Aside0.mk hC
              clear hC
              by_cases hn : ns ≤ 60
              · have l1 : ((i : Int) < (ns : Int)) = False := eq_false (by omega)
                go_wp2_with fail
                go_meet
                case rel => exact ⟨_, F', G, AF2, cF2, AG2, cG2, by omega, HC6.out⟩
              · have l1 : ((i : Int) < (ns : Int)) = True := eq_true (by omega)
                have l2 : ((i : Int) < 60) = False := eq_false (by omega)
                go_wp2_with fail
                go_meet
                case rel => exact ⟨_, F', G, AF2, cF2, AG2, cG2, by omega, HC6.out⟩
            | succ k2 =>
              have l1 : ((i : Int) < (ns : Int)) = True := eq_true (by omega)
              have l2 : ((i : Int) < 60) = True := eq_true (by omega)
              obtain ⟨ad, rfl, what, n1, at_, inst, fn, ans, lo, hi_, ty, v, has, mu, P, R, cp, cr, ps, rs, hD⟩ := HSC.out i (by omega)
              have hD2 := hD.below hC.bl
              obtain ⟨r, hr⟩ := pick_f what hD.w0 hD.w1 4 (by decide) (by decide)
              have x0 := hD2.d0
              have i0 : (0 : Int) ≤ (i : Int) := by omega
              have HD := Aside0.mk hD2
              have HC6 := Aside0.mk hC
              have HPK := Aside0.mk (pick_calls what hD.w0 hD.w1 4 (by decide) (by decide) r hr)
              clear hD hD2 hC hr
              have e14 : wrap64 ((i : Int) + 1) = (i : Int) + 1 := by unfold wrap64; omega
              have HN := Aside0.mk (And.intro hi (And.intro hF hG))
              clear hi hF hG
              by_cases r0 : r = 0
              · subst r0
                have y3 := HD.out.d3
                have y4 := HD.out.d4
                have y5 := HD.out.d5
                have y6 := HD.out.d6
                have y7 := HD.out.d7
                have a8 : ∀ W5 : World, Below wr.heap.size wr W5 → Calls Try.prog 8 #[.pointer (some ⟨w1.heap.size, 0, none⟩), .agg #[.slice P ps.length cp, .slice R rs.length cr, .int .i64 inst, .int .i64 fn, .int .u64 ans]] W5 fun e w' => (∃ q : Int, e = .returned (.int .i64 q)) ∧ ∃ AF' cF', Ctx W wc.heap.size w1.heap.size #[.slice A xs.length c, .slice B ys.length d] w' (⟨⟨xs, ys⟩, 0, n, 0⟩ :: (F' ++ [⟨⟨ps, rs⟩, inst, fn, ans⟩])) G AF' cF' AT cT AG2 cG2 := by
                  intro W5 h5
                  have hC5 := HC6.out.below h5
                  refine (addFunc_calls hC5.st hC5.sz (len_ok HN.out.2.1 HN.out.1) (Kd.C_below HD.out.cP h5) HD.out.lP HD.out.kP (Kd.C_below HD.out.cR h5) HD.out.lR HD.out.kR inst fn ans).mono ?_
                  rintro e w' ⟨he, AF', cF', hS, hO⟩
                  exact ⟨⟨_, he⟩, AF', cF', hC5.fAdd HW.out (by simpa using hS) hO⟩
                have A8 := Aside0.mk a8
                clear a8
                go_wp2_with (first
                  | (go_at_call 10; (with_reducible refine (HPK.out _).mono ?_); rintro e w5 ⟨rfl, ⟨nd, rfl⟩⟩)
                  | (go_at_call 8; (with_reducible refine (A8.out _ (pw_below_drewN (Below.refl _ _) _)).mono ?_); rintro e w6 ⟨⟨q, rfl⟩, AF3, cF3, hC7⟩; have HC7 := Aside0.mk hC7; clear hC7))
                go_roundg k2
                case measure => omega
                case rel => exact ⟨i + 1, _, G, AF3, cF3, AG2, cG2, by rw [e14]; rfl, by have := HN.out.1; omega, by have := HN.out.2.1; simp; omega, by have := HN.out.2.2; omega, HC7.out⟩
              · have n0 : (r = 0) = False := eq_false r0
                by_cases r3 : r = 3
                · subst r3
                  have y5 := HD.out.d11
                  have y6 := HD.out.d12
                  have y7 := HD.out.d13
                  have a11 : ∀ W5 : World, Below wr.heap.size wr W5 → Calls Try.prog 11 #[.pointer (some ⟨w1.heap.size, 0, none⟩), .agg #[.int .i64 ty, .bool mu, .int .u64 v]] W5 fun e w' => (∃ q : Int, e = .returned (.int .i64 q)) ∧ ∃ AG' cG', Ctx W wc.heap.size w1.heap.size #[.slice A xs.length c, .slice B ys.length d] w' (⟨⟨xs, ys⟩, 0, n, 0⟩ :: F') (G ++ [⟨ty, mu, v⟩]) AF2 cF2 AT cT AG' cG' := by
                    intro W5 h5
                    have hC5 := HC6.out.below h5
                    refine (addGlobal_calls hC5.st hC5.sz (len_ok' HN.out.2.2 HN.out.1) ty mu v).mono ?_
                    rintro e w' ⟨he, AG', cG', hS, hO⟩
                    exact ⟨⟨_, he⟩, AG', cG', hC5.gAdd HW.out (by simpa using hS) hO⟩
                  have A11 := Aside0.mk a11
                  clear a11
                  go_wp2_with (first
                    | (go_at_call 10; (with_reducible refine (HPK.out _).mono ?_); rintro e w5 ⟨rfl, ⟨nd, rfl⟩⟩)
                    | (go_at_call 11; (with_reducible refine (A11.out _ (pw_below_drewN (Below.refl _ _) _)).mono ?_); rintro e w6 ⟨⟨q, rfl⟩, AG3, cG3, hC7⟩; have HC7 := Aside0.mk hC7; clear hC7))
                  go_roundg k2
                  case measure => omega
                  case rel => exact ⟨i + 1, F', _, AF2, cF2, AG3, cG3, by rw [e14]; rfl, by have := HN.out.1; omega, by have := HN.out.2.1; omega, by have := HN.out.2.2; simp; omega, HC7.out⟩
                · have n3 : (r = 3) = False := eq_false r3
                  go_wp2_with (first
                    | (go_at_call 10; (with_reducible refine (HPK.out _).mono ?_); rintro e w5 ⟨rfl, ⟨nd, rfl⟩⟩))
                  go_roundg k2
                  case measure => omega
                  case rel => exact ⟨i + 1, F', G, AF2, cF2, AG2, cG2, by rw [e14]; rfl, by have := HN.out.1; omega, by have := HN.out.2.1; omega, by have := HN.out.2.2; omega, HC6.out.below (pw_below_drewN (Below.refl _ _) _)⟩
        case rest =>
          obtain ⟨base, F', G, AF2, cF2, AG2, cG2, hF, hC⟩ := hcut
          have HT := Aside0.mk (tail_func hC hF HL.out.1 HL.out.2)
          have HU := Aside0.mk (tail_table hC)
          have HC := Aside0.mk hC
          clear hC HC5 H8 HC4
          go_upto_region 23 with (go_at_call 12; (with_reducible refine (HT.out _ (by repeat (first | exact Below.refl _ _ | assumption | apply below_alloc | apply pw_below_drewN | apply below_drew))).mono ?_); rintro e w5 ⟨A5, c5, A6, c6, rfl, hR5, hR6, hB5⟩; have HR5 := Aside0.mk hR5; have HB5 := Aside0.mk hB5; clear hR5 hR6 hB5)
          obtain ⟨wA, hwA⟩ : ∃ x, x = w5.alloc (.cells #[.slice A5 xs.length c5, .slice A6 ys.length c6, .int .i64 0, .int .i64 n, .int .u64 0] 32) := ⟨_, rfl⟩
          have rA : Row wA w5.heap.size 32 #[.slice A5 xs.length c5, .slice A6 ys.length c6, .int .i64 0, .int .i64 n, .int .u64 0] := by rw [hwA]; exact Row.made _ _ _ rfl
          have bA : Below w5.heap.size w5 wA := by rw [hwA]; exact below_alloc (Below.refl _ _) _
          rw [← hwA]
          have bcA : Below wc.heap.size wc wA := HB5.out.trans (below_mono bA HB5.out.size)
          have RA := Aside0.mk rA
          have BA := Aside0.mk bA
          have BCA := Aside0.mk bcA
          clear rA bA bcA hwA
          go_upto_region 24 with (go_at_call 13; (with_reducible refine (HU.out _ BCA.out).mono ?_); rintro e w6 ⟨A7, c7, rfl, hR7, hB6⟩; have HR7 := Aside0.mk hR7; have HB6 := Aside0.mk hB6; clear hR7 hB6)
          have r6 : Row w6 w5.heap.size 32 #[.slice A5 xs.length c5, .slice A6 ys.length c6, .int .i64 0, .int .i64 n, .int .u64 0] := Row.below' HB6.out RA.out
          have q60 := r6.cell 0
          have q62 := r6.cell 2
          have q63 := r6.cell 3
          simp only [List.getElem?_toArray, List.getElem?_cons_zero, List.getElem?_cons_succ] at q60 q62 q63
          have bc6 : Below wc.heap.size wc w6 := BCA.out.trans (below_mono HB6.out BCA.out.size)
          have x6 := HC.out.below bc6
          have q64 := x6.box.cell 0
          simp only [List.getElem?_toArray, List.getElem?_cons_zero, List.getElem?_cons_succ] at q64
          have hR56 : I64.R 3 w6 wc.heap.size (fun k => k < w5.heap.size) (.slice A5 xs.length c5) xs := Kd.R_below (Kd.R_below (Kd.R_mono (Kd.R_bound HR5.out) (fun k hk => hk.2.2.1)) BA.out) HB6.out
          obtain ⟨_, le5, cx6⟩ := Kd.R_reads' hR56
          obtain ⟨_, le7, ct6⟩ := Kd.R_reads' HR7.out
          have cbox := Kd.C_below HX.out x6.bl
          have I14 := Aside0.mk (show ∀ W5 : World, Below w6.heap.size w6 W5 → Calls Try.prog 14 #[.slice A5 xs.length c5, .slice A xs.length c] W5 fun e w' => e = .returned (.bool true) ∧ Drawn0 W5 w' from fun W5 h5 => ints_calls xs (by have := HL.out.1; omega) (Kd.C_below cx6 h5) le5 (Kd.C_below cbox h5) hc)
          have J14 := Aside0.mk (show ∀ (W5 : World) (g : Nat) (t : TypeId), Row W5 g t #[.int .i64 (-1), .int .i64 (-1), .int .i64 (-1)] → Below w6.heap.size w6 W5 → Calls Try.prog 14 #[.slice A7 3 c7, .slice (some ⟨g, 0, none⟩) 3 3] W5 fun e w' => e = .returned (.bool true) ∧ Drawn0 W5 w' from fun W5 g t hr h5 => ints_calls [-1, -1, -1] (by decide) (Kd.C_below ct6 h5) le7 (lit3 hr) (by decide))
          have R6 := Aside0.mk r6
          have BC6 := Aside0.mk bc6
          have HR56 := Aside0.mk hR56
          clear r6 x6 hR56 cx6 ct6 cbox bc6
          go_upto_block 4 with (go_at_call 14; (first
            | ((with_reducible refine (I14.out _ (by repeat (first | exact Below.refl _ _ | assumption | apply below_alloc | apply pw_below_drewN | apply below_drew))).mono ?_); rintro e w7 ⟨rfl, ⟨nd, rfl⟩⟩)
            | ((with_reducible refine (J14.out _ _ _ (Row.made _ _ _ (by simp)) (by repeat (first | exact Below.refl _ _ | assumption | apply below_alloc | apply pw_below_drewN | apply below_drew))).mono ?_); rintro e w7 ⟨rfl, ⟨nd, rfl⟩⟩)))
          go_wp2_with fail
          go_loopg [20] xs.length (fun kq v20 w' => ∃ (j : Nat), v20 = .int .i64 j ∧ j + kq = xs.length ∧ Below wc.heap.size wc w' ∧ Row w' w5.heap.size 32 #[.slice A5 xs.length c5, .slice A6 ys.length c6, .int .i64 0, .int .i64 n, .int .u64 0] ∧ (∃ zs : List Int, I64.R 3 w' wc.heap.size (fun k => k < w5.heap.size) (.slice A5 xs.length c5) zs) ∧ I64.R 3 w' wA.heap.size (fun _ => True) (.slice A7 3 c7) [-1, -1, -1])
          case atStart =>
            have st0 : ∀ W5 : World, Below w6.heap.size w6 W5 → Below wc.heap.size wc W5 ∧ Row W5 w5.heap.size 32 #[.slice A5 xs.length c5, .slice A6 ys.length c6, .int .i64 0, .int .i64 n, .int .u64 0] ∧ (∃ zs : List Int, I64.R 3 W5 wc.heap.size (fun k => k < w5.heap.size) (.slice A5 xs.length c5) zs) ∧ I64.R 3 W5 wA.heap.size (fun _ => True) (.slice A7 3 c7) [-1, -1, -1] :=
              fun W5 bw => ⟨BC6.out.trans (below_mono bw BC6.out.size), Row.below' bw R6.out, ⟨xs, Kd.R_below HR56.out bw⟩, Kd.R_below HR7.out bw⟩
            exact ⟨0, rfl, by omega, st0 _ (by repeat (first | exact Below.refl _ _ | assumption | apply below_alloc | apply pw_below_drewN | apply below_drew))⟩
          case round =>
            obtain ⟨j, rfl, hj, hB, hr, ⟨zs, hz⟩, h7⟩ := hrel
            have q5 := hr.cell 0
            simp only [List.getElem?_toArray, List.getElem?_cons_zero, List.getElem?_cons_succ] at q5
            cases gk with
            | zero =>
              have hnlt : ((j : Int) < (xs.length : Int)) = False := eq_false (by omega)
              obtain ⟨g7, rfl⟩ : ∃ g, A7 = some ⟨g, 0, none⟩ := by
                obtain ⟨g, cap, he, _⟩ := Kd.R_form h7 (by decide)
                simp only [Value.slice.injEq] at he
                exact ⟨g, he.1⟩
              have g7b := Kd.R_base h7 g7 (by simp [Value.ownBlock])
              obtain ⟨c70, z70⟩ := Kd.R_celln (d := (0 : Int)) h7 0 (by decide) (by decide)
              simp only [Int.toNat_zero] at c70 z70
              have HB := Aside0.mk (show Below wc.heap.size wc (wr.setCell ⟨g7, 0, none⟩ (.int .i64 5)) from hB.setCell (by have := BCA.out.size; show wc.heap.size ≤ g7; omega) _)
              clear hB hr hz h7
              go_upto_region 32 with (go_at_call 12; (with_reducible refine (HT.out _ HB.out).mono ?_); rintro e wC ⟨A8, c8, A9, c9, rfl, hR8, hR9, hB8⟩; have HR8 := Aside0.mk hR8; have HB8 := Aside0.mk hB8; clear hR8 hR9 hB8)
              obtain ⟨wD, hwD⟩ : ∃ x, x = wC.alloc (.cells #[.slice A8 xs.length c8, .slice A9 ys.length c9, .int .i64 0, .int .i64 n, .int .u64 0] 32) := ⟨_, rfl⟩
              have rD : Row wD wC.heap.size 32 #[.slice A8 xs.length c8, .slice A9 ys.length c9, .int .i64 0, .int .i64 n, .int .u64 0] := by rw [hwD]; exact Row.made _ _ _ rfl
              have bD : Below wC.heap.size wC wD := by rw [hwD]; exact below_alloc (Below.refl _ _) _
              rw [← hwD]
              have bcC : Below wc.heap.size wc wC := HB.out.trans (below_mono HB8.out HB.out.size)
              have bcD : Below wc.heap.size wc wD := bcC.trans (below_mono bD bcC.size)
              have RD := Aside0.mk rD
              have BD := Aside0.mk bD
              have BCD := Aside0.mk bcD
              clear rD bD bcC bcD hwD
              go_upto_region 33 with (go_at_call 13; (with_reducible refine (HU.out _ BCD.out).mono ?_); rintro e wE ⟨A10, c10, rfl, hR10, hB10⟩; have HR10 := Aside0.mk hR10; have HB10 := Aside0.mk hB10; clear hR10 hB10)
              have rE : Row wE wC.heap.size 32 #[.slice A8 xs.length c8, .slice A9 ys.length c9, .int .i64 0, .int .i64 n, .int .u64 0] := Row.below' HB10.out RD.out
              have qE0 := rE.cell 0
              simp only [List.getElem?_toArray, List.getElem?_cons_zero, List.getElem?_cons_succ] at qE0
              have bcE : Below wc.heap.size wc wE := BCD.out.trans (below_mono HB10.out BCD.out.size)
              have xE := HC.out.below bcE
              have qE4 := xE.box.cell 0
              simp only [List.getElem?_toArray, List.getElem?_cons_zero, List.getElem?_cons_succ] at qE4
              have hR8E := Kd.R_below (Kd.R_below HR8.out BD.out) HB10.out
              obtain ⟨_, le8, cx8⟩ := Kd.R_reads' hR8E
              obtain ⟨_, le10, ct10⟩ := Kd.R_reads' HR10.out
              have cboxE := Kd.C_below HX.out xE.bl
              have IE := Aside0.mk (show ∀ W5 : World, Below wE.heap.size wE W5 → Calls Try.prog 14 #[.slice A8 xs.length c8, .slice A xs.length c] W5 fun e w' => e = .returned (.bool true) ∧ Drawn0 W5 w' from fun W5 h5 => ints_calls xs (by have := HL.out.1; omega) (Kd.C_below cx8 h5) le8 (Kd.C_below cboxE h5) hc)
              have JE := Aside0.mk (show ∀ (W5 : World) (g : Nat) (t : TypeId), Row W5 g t #[.int .i64 (-1), .int .i64 (-1), .int .i64 (-1)] → Below wE.heap.size wE W5 → Calls Try.prog 14 #[.slice A10 3 c10, .slice (some ⟨g, 0, none⟩) 3 3] W5 fun e w' => e = .returned (.bool true) ∧ Drawn0 W5 w' from fun W5 g t hr h5 => ints_calls [-1, -1, -1] (by decide) (Kd.C_below ct10 h5) le10 (lit3 hr) (by decide))
              have BCE := Aside0.mk bcE
              clear rE xE hR8E cx8 ct10 cboxE bcE
              go_wp2_with (go_at_call 14; (first
                | ((with_reducible refine (IE.out _ (by repeat (first | exact Below.refl _ _ | assumption | apply below_alloc | apply pw_below_drewN | apply below_drew))).mono ?_); rintro e w7 ⟨rfl, ⟨nd, rfl⟩⟩)
                | ((with_reducible refine (JE.out _ _ _ (Row.made _ _ _ (by simp)) (by repeat (first | exact Below.refl _ _ | assumption | apply below_alloc | apply pw_below_drewN | apply below_drew))).mono ?_); rintro e w7 ⟨rfl, ⟨nd, rfl⟩⟩)))
              go_ret
              exact ⟨rfl, (HC.out.below (BCE.out.trans (below_mono (w := wE) (by repeat (first | exact Below.refl _ _ | assumption | apply below_alloc | apply pw_below_drewN | apply below_drew)) BCE.out.size))).bl⟩
            | succ k3 =>
              have hlt2 : ((j : Int) < (xs.length : Int)) = True := eq_true (by omega)
              have hlz : j < zs.length := by have := (Kd.R_reads' hz).1; omega
              obtain ⟨g, rfl⟩ : ∃ g, A5 = some ⟨g, 0, none⟩ := by
                obtain ⟨g, cap, he, _⟩ := Kd.R_form hz (by omega)
                simp only [Value.slice.injEq] at he
                exact ⟨g, he.1⟩
              have hg1 := Kd.R_base hz g (by simp [Value.ownBlock])
              have hg2 := hz.1 g (by simp [Value.ownBlock])
              obtain ⟨c5c, z5⟩ := Kd.R_celln (d := (0 : Int)) hz j (by omega) (by omega)
              simp only [Int.toNat_natCast] at c5c z5
              have hne : w5.heap.size ≠ g := by omega
              have hz2 := Kd.R_putn hz j 9
              simp only [Int.toNat_natCast] at hz2
              have hr2 := hr.off (p := ⟨g, j, none⟩) hne (.int .i64 9)
              have hB2 : Below wc.heap.size wc (wr.setCell ⟨g, j, none⟩ (.int .i64 9)) := hB.setCell hg1 _
              have h72 : I64.R 3 (wr.setCell ⟨g, j, none⟩ (.int .i64 9)) wA.heap.size (fun _ => True) (.slice A7 3 c7) [-1, -1, -1] := Kd.R_mono (Kd.R_move (Kd.R_bound h7) (fun k hk => Below.heap_setCell _ _ _ _ (by have := BA.out.size; show k ≠ g; omega))) (fun _ _ => trivial)
              have i0 : (0 : Int) ≤ (j : Int) := by omega
              have e20 : wrap64 ((j : Int) + 1) = (j : Int) + 1 := by have := HL.out.1; unfold wrap64; omega
              have HZ2 := Aside0.mk hz2
              have HRR := Aside0.mk hr2
              have HB2 := Aside0.mk hB2
              have H72 := Aside0.mk h72
              clear hz hz2 hr hr2 hB hB2 h7 h72
              go_wp2_with fail
              go_roundg k3
              case measure => omega
              case rel => exact ⟨j + 1, by first | rfl | (rw [e20]; rfl), by omega, HB2.out, HRR.out, ⟨_, HZ2.out⟩, H72.out⟩
      | succ k2 =>
        have hlt2 : ((j : Int) < (xs.length : Int)) = True := eq_true (by omega)
        have hp : 0 < xs.length := by omega
        have hR := hz hp
        obtain ⟨g, rfl⟩ : ∃ g, A1 = some ⟨g, 0, none⟩ := by
          obtain ⟨e1, _, _⟩ := Kd.R_reads' hR
          obtain ⟨g, cap, he, _⟩ := Kd.R_form hR (by omega)
          simp only [Value.slice.injEq] at he
          exact ⟨g, he.1⟩
        have hg1 := Kd.R_base hR g (by simp [Value.ownBlock])
        have hg2 := hR.1 g (by simp [Value.ownBlock])
        obtain ⟨c5, z5⟩ := Kd.R_celln (d := (0 : Int)) hR j (by omega) (by omega)
        simp only [Int.toNat_natCast] at c5 z5
        have hne : o ≠ g := fun e => Kd.R_ne hR hrr (by decide) (by simp [Value.ownBlock, e])
        have hR2 := Kd.R_putn hR j 9
        simp only [Int.toNat_natCast] at hR2
        have hrr2 := hrr.off (p := ⟨g, j, none⟩) hne (.int .i64 9)
        have hC2 := hC.far (p := ⟨g, j, none⟩) (by have := HSZ.out; have := HW.out; show W.heap.size < g; omega) hg2 (by have := HSZ.out; show g ≠ w1.heap.size; omega) (.int .i64 9)
        have i0 : (0 : Int) ≤ (j : Int) := by omega
        have HC2 := Aside0.mk hC2
        have HR2' := Aside0.mk hR2
        have HRR2 := Aside0.mk hrr2
        clear hC hC2 hR hR2 hrr2 hz hr4 hA4
        go_wp2_with fail
        go_roundg k2
        case measure => omega
        case rel => exact ⟨j + 1, by have := HL.out.1; simp [show wrap64 ((j : Int) + 1) = (j : Int) + 1 by unfold wrap64; omega], by omega, HRR2.out, ⟨_, fun _ => HR2'.out⟩, HC2.out⟩
end Go.Proofs.Ytbelijoggbblgaa.St
