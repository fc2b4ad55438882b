/- list.Parse in plain words: a stack of open lists; and its test of kinds, by contracts. -/
import Derived.Test.YtiicmihecdeebaaRListFlatsx0
set_option linter.unusedVariables false
set_option linter.unusedSimpArgs false
namespace Go.Proofs.Ytiicmihecdeebaa.Lt
open Go.RowKit Go.Proofs.YtiicmihecdeebaaW.PrintWords Go.Proofs.YtiicmihecdeebaaW.PrintLast Go.Proofs.YtiicmihecdeebaaW.PrintMore Go.Proofs.Ytiicmihecdeebaa.RListFlats
def badK (t : S36) : Bool := decide (t.f0 < 1) || decide (4 < t.f0)
/-- An open list: its kind and place, and what stands in it. -/
structure Fr where
  k : Int
  a : Int
  xs : List S39
def push (x : S39) : List Fr → List Fr
  | [] => []
  | f :: r => ⟨f.k, f.a, f.xs ++ [x]⟩ :: r
/-- One token; the innermost list is the first. -/
def stp (t : S36) (st : List Fr) : Except (Int × Int) (List Fr) :=
  if t.f0 = 1 then (if 64 < st.length then .error (7, t.f1) else .ok (⟨1, t.f1, []⟩ :: st))
  else if t.f0 = 2 then (match st with
    | f :: g :: r => .ok (push ⟨f.k, f.a, ⟨#[]⟩, f.xs⟩ (g :: r))
    | _ => .error (2, t.f1))
  else .ok (push ⟨t.f0, t.f1, t.f2, []⟩ st)
def run : List S36 → List Fr → Except (Int × Int) (List Fr)
  | [], st => .ok st
  | t :: r, st => match stp t st with
    | .error e => .error e
    | .ok st' => run r st'
/-- What Parse answers: nodes; or no kind of token (none), or an error and its place. -/
def fin : Except (Int × Int) (List Fr) → Except (Option (Int × Int)) (List S39)
  | .error e => .error (some e)
  | .ok [] => .ok []
  | .ok [f] => .ok f.xs
  | .ok (f :: _ :: _) => .error (some (2, f.a))
def prs (l : List S36) : Except (Option (Int × Int)) (List S39) := if l.any badK = true then .error none else fin (run l [⟨0, 0, []⟩])
set_option maxHeartbeats 2000000 in
theorem bad_calls (t : S36) (w : World) : Calls Try.prog 15 #[.agg #[.int .i64 t.f0, .int .i64 t.f1, .string t.f2]] w fun e w' => e = .returned (.bool (badK t)) ∧ Below w.heap.size w w' := by
  obtain ⟨a, b, c⟩ := t
  simp only
  have HB := Aside0.mk (Below.refl w.heap.size w)
  have hbk : badK ⟨a, b, c⟩ = (decide (a < 1) || decide (4 < a)) := rfl
  rw [hbk]
  clear hbk
  by_cases h1 : a < 1
  · have d1 : decide (a < 1) = true := decide_eq_true h1
    have e1 : (a < 1) = True := eq_true h1
    rw [d1, Bool.true_or]
    clear h1
    go_enter Try.func15, Try.ntmps15
    go_wp2_with fail
    go_ret
    exact ⟨rfl, below_alloc HB.out _⟩
  · have d1 : decide (a < 1) = false := decide_eq_false h1
    have e1 : (a < 1) = False := eq_false h1
    rw [d1, Bool.false_or]
    clear h1
    by_cases h2 : 4 < a
    · have d2 : decide (4 < a) = true := decide_eq_true h2
      rw [d2]
      have e2 : (4 < a) = True := eq_true h2
      clear h2
      go_enter Try.func15, Try.ntmps15
      go_wp2_with fail
      go_ret
      exact ⟨rfl, below_alloc HB.out _⟩
    · have d2 : decide (4 < a) = false := decide_eq_false h2
      rw [d2]
      have e2 : (4 < a) = False := eq_false h2
      clear h2
      go_enter Try.func15, Try.ntmps15
      go_wp2_with fail
      go_ret
      exact ⟨rfl, below_alloc HB.out _⟩
set_option maxHeartbeats 2000000 in
theorem index_calls (w : World) (A : Option Addr) (c : Nat) (xs : List S36) (hC : k36.C w A xs.length xs) (hl : xs.length ≤ 100000) : Calls Try.prog 16 #[.slice A xs.length c, .func (.func 15) #[] #[]] w fun e w' => ∃ r : Int, e = .returned (.int .i64 r) ∧ decide (0 ≤ r) = xs.any badK ∧ Below w.heap.size w w' := by
  have HC := Aside0.mk hC
  have HL := Aside0.mk hl
  clear hC hl
  go_enter Try.func16, Try.ntmps16
  go_wp2_with fail
  go_loopg [8] (xs.length + 1) (fun kq v8 w' => ∃ i : Int, v8 = .int .i64 i ∧ 0 ≤ i ∧ i ≤ (xs.length : Int) ∧ xs.length + 1 ≤ kq + i.toNat ∧ Aside0 ((xs.take i.toNat).any badK = false) ∧ Aside0 (k36.C w' A xs.length xs) ∧ Aside0 (Below w.heap.size w w'))
  case atStart => exact ⟨0, rfl, by omega, by omega, by simp, ⟨rfl⟩, HC, ⟨by repeat (first | exact Below.refl _ _ | apply pw_below_drewN | apply below_drew)⟩⟩
  case round =>
    obtain ⟨i, rfl, h1, h2, h3, HP, HC, HB⟩ := hrel
    cases gk with
    | zero => omega
    | succ k2 =>
      by_cases hlt : i < (xs.length : Int)
      · have c1 : decide (i < (xs.length : Int)) = true := decide_eq_true hlt
        have c2 : decide (0 ≤ i) = true := decide_eq_true h1
        obtain ⟨ad, ead, x0, x1, x2⟩ := at_T36 HC.out i h1 hlt
        cases ead
        have Q := Aside0.mk (show 0 ≤ i + 1 ∧ i + 1 ≤ (xs.length : Int) ∧ xs.length + 1 ≤ k2 + (i + 1).toNat by omega)
        have hw : IntKind.i64.wrap (i + 1) = i + 1 := by rw [IntKind.wrap_i64]; have := HL.out; omega
        have hmem : rd_T36 xs i ∈ xs := by
          unfold rd_T36
          rw [List.getD_eq_getElem?_getD, List.getElem?_eq_getElem (show i.toNat < xs.length by omega)]
          exact List.getElem_mem _
        have htk : xs.take (i + 1).toNat = xs.take i.toNat ++ [rd_T36 xs i] := by
          rw [show (i + 1).toNat = i.toNat + 1 by omega, List.take_add_one]
          unfold rd_T36
          rw [List.getD_eq_getElem?_getD, List.getElem?_eq_getElem (show i.toNat < xs.length by omega)]
          rfl
        have CB := Aside0.mk (fun W5 : World => bad_calls (rd_T36 xs i) W5)
        have p1 := eq_true h1
        have q1 := eq_true hlt
        cases hb : badK (rd_T36 xs i) with
        | true =>
          have HA := Aside0.mk (show decide (0 ≤ i) = xs.any badK by rw [c2]; symm; rw [List.any_eq_true]; exact ⟨_, hmem, hb⟩)
          rw [hb] at CB
          clear hb htk hmem hw
          go_wp2_with (go_at_call 15; (refine (CB.out _).mono ?_); rintro e w2 ⟨rfl, hB2⟩; have HB2 := Aside0.mk (HB.out.trans (hB2.mono HB.out.size)); clear hB2)
          go_ret
          exact ⟨i, rfl, HA.out, HB2.out⟩
        | false =>
          have HP2 := Aside0.mk (show (xs.take (i + 1).toNat).any badK = false by rw [htk, List.any_append, HP.out]; simp [hb])
          rw [hb] at CB
          clear hb htk hmem
          go_wp2_with (go_at_call 15; (refine (CB.out _).mono ?_); rintro e w2 ⟨rfl, hB2⟩; have HC2 := Aside0.mk (Kd.C_below HC.out hB2); have HB2 := Aside0.mk (HB.out.trans (hB2.mono HB.out.size)); clear hB2)
          go_roundg k2
          case measure => omega
          case rel => exact ⟨i + 1, (by first | rfl | (simp; done) | (simp [*]; done)), Q.out.1, Q.out.2.1, Q.out.2.2, HP2, HC2, HB2⟩
      · have c1 : decide (i < (xs.length : Int)) = false := decide_eq_false hlt
        have hx : i.toNat = xs.length := by omega
        have hp := HP.out
        rw [hx, List.take_length] at hp
        have HP2 := Aside0.mk hp
        clear hp hx
        go_wp2_with fail
        go_ret
        exact ⟨-1, rfl, by rw [HP2.out]; rfl, HB.out⟩
theorem contains_calls (w : World) (A : Option Addr) (c : Nat) (xs : List S36) (hC : k36.C w A xs.length xs) (hl : xs.length ≤ 100000) : Calls Try.prog 14 #[.slice A xs.length c, .func (.func 15) #[] #[]] w fun e w' => e = .returned (.bool (xs.any badK)) ∧ Below w.heap.size w w' := by
  have CI := Aside0.mk (index_calls w A c xs hC hl)
  clear hC hl
  go_enter Try.func14, Try.ntmps14
  go_wp2_with (go_at_call 16; (refine CI.out.mono ?_); rintro e w2 ⟨r, rfl, hr, hB2⟩; have HB2 := Aside0.mk hB2; clear hB2)
  go_ret
  exact ⟨by first | (rw [← hr]; rfl) | (rw [hr]) | rfl, HB2.out⟩
end Go.Proofs.Ytiicmihecdeebaa.Lt
