/- Plain facts: the tokens of a text, over its bytes: gaps, strings, atoms. No program in sight. -/
import Derived.Test.YtaidpcmndmjceaaDoorRLexScansx0
import Derived.Lib.Bytes
set_option linter.unusedVariables false
set_option linter.unusedSimpArgs false
namespace Go.Proofs.YtaidpcmndmjceaaDoor.Lx
open Go.RowKit Go.Proofs.YtaidpcmndmjceaaDoorW.PrintWords Go.Proofs.YtaidpcmndmjceaaDoorW.PrintLast Go.Proofs.YtaidpcmndmjceaaDoorW.PrintMore Go.Proofs.YtaidpcmndmjceaaDoor.RLexScans
def Bytes (l : List Int) : Prop := ∀ x ∈ l, 0 ≤ x ∧ x < 256
def blankB (x : Int) : Bool := decide (x = 32 ∨ x = 9 ∨ x = 10 ∨ x = 13)
def atomsL : List Int := [97, 98, 99, 100, 101, 102, 103, 104, 105, 106, 107, 108, 109, 110, 111, 112, 113, 114, 115, 116, 117, 118, 119, 120, 121, 122, 65, 66, 67, 68, 69, 70, 71, 72, 73, 74, 75, 76, 77, 78, 79, 80, 81, 82, 83, 84, 85, 86, 87, 88, 89, 90, 48, 49, 50, 51, 52, 53, 54, 55, 56, 57, 33, 35, 36, 37, 38, 39, 42, 43, 45, 46, 47, 58, 60, 61, 62, 63, 64, 92, 94, 95, 96, 124, 126]
def atomB (x : Int) : Bool := atomsL.contains x
def badB (x : Int) : Bool := decide (x < 32 ∨ x = 127)
/-- A comment's bytes, from inside it on, so many deep. -/
def cm : Nat → List Int → Option Nat
  | d, x :: y :: r => if x = 40 ∧ y = 59 then (cm (d + 1) r).map (· + 2) else if x = 59 ∧ y = 41 then (if d ≤ 1 then some 2 else (cm (d - 1) r).map (· + 2)) else (cm d (y :: r)).map (· + 1)
  | _, _ => none
/-- A string's bytes behind its first quote. -/
def qt : List Int → Option Nat
  | [] => none
  | x :: r => if badB x = true then none else if x = 34 then some 1 else if x = 92 then (match r with
      | [] => none
      | y :: r' => if badB y = true then none else (qt r').map (· + 2)) else (qt r).map (· + 1)
theorem qt_cons (x : Int) (r : List Int) : qt (x :: r) = if badB x = true then none else if x = 34 then some 1 else if x = 92 then (match r with
      | [] => none
      | y :: r' => if badB y = true then none else (qt r').map (· + 2)) else (qt r).map (· + 1) := by
  rw [qt.eq_def]
theorem take_tw (p : Int → Bool) : ∀ l : List Int, l.take (l.takeWhile p).length = l.takeWhile p
  | [] => rfl
  | x :: r => by
    rw [List.takeWhile_cons]
    split
    · rw [List.length_cons, List.take_succ_cons, take_tw p r]
    · rfl
/-- A line's bytes, its end among them. -/
def line : List Int → Nat
  | [] => 0
  | x :: r => if x = 10 then 1 else line r + 1
/-- How many bytes of nothing there are first; none: a comment is not closed. -/
def gapN : List Int → Option Nat
  | [] => some 0
  | [x] => if blankB x = true then some 1 else some 0
  | x :: y :: r => if blankB x = true then some 1 else if x = 59 ∧ y = 59 then some (line (x :: y :: r)) else if x = 40 ∧ y = 59 then (cm 1 r).map (· + 2) else some 0
/-- The token that begins: its kind, its text, its bytes. -/
def tokN : List Int → Option (Int × List Int × Nat)
  | [] => none
  | x :: r => if x = 40 then some (1, [], 1) else if x = 41 then some (2, [], 1) else if x = 34 then (qt r).map (fun n => (3, r.take (n - 1), n + 1))
    else if atomB x = true then some (4, (x :: r).takeWhile atomB, ((x :: r).takeWhile atomB).length) else none
/-- The tokens from a place on, behind those that there are; or what is amiss, and where. -/
def scL : Nat → List Int → Nat → List S36 → Except (Int × Nat) (List S36)
  | 0, _, _, out => .ok out
  | f + 1, l, p, out => if l = [] then .ok out else match gapN l with
    | none => .error (2, p)
    | some (n + 1) => scL f (l.drop (n + 1)) (p + (n + 1)) out
    | some 0 => match tokN l with
      | none => .error (2, p)
      | some (k, t, n) => if out.length = 4096 then .error (7, p) else scL f (l.drop n) (p + n) (out ++ [⟨k, (p : Int), strOfNums t⟩])
def scan (l : List Int) : Except (Int × Nat) (List S36) := scL (l.length + 1) l 0 []
theorem cm_pos : ∀ (l : List Int) (d n : Nat), cm d l = some n → 2 ≤ n ∧ n ≤ l.length
  | [], d, n, h => by cases h
  | [x], d, n, h => by cases h
  | x :: y :: r, d, n, h => by
    rw [cm] at h
    split at h
    · cases hc : cm (d + 1) r with
      | none => rw [hc] at h; cases h
      | some m =>
        rw [hc] at h
        have k := cm_pos r _ _ hc
        simp only [Option.map_some, Option.some.injEq] at h
        simp only [List.length_cons]
        omega
    · split at h
      · split at h
        · injection h with h
          simp only [List.length_cons]
          omega
        · cases hc : cm (d - 1) r with
          | none => rw [hc] at h; cases h
          | some m =>
            rw [hc] at h
            have k := cm_pos r _ _ hc
            simp only [Option.map_some, Option.some.injEq] at h
            simp only [List.length_cons]
            omega
      · cases hc : cm d (y :: r) with
        | none => rw [hc] at h; cases h
        | some m =>
          rw [hc] at h
          have k := cm_pos (y :: r) _ _ hc
          simp only [Option.map_some, Option.some.injEq] at h
          simp only [List.length_cons] at k ⊢
          omega
theorem qt_pos : ∀ (l : List Int) (n : Nat), qt l = some n → 1 ≤ n ∧ n ≤ l.length
  | [], n, h => by cases h
  | [x], n, h => by
    rw [qt] at h
    split at h
    · cases h
    · split at h
      · injection h with h; simp only [List.length_cons]; omega
      · split at h
        · cases h
        · cases h
  | x :: y :: r, n, h => by
    rw [qt] at h
    split at h
    · cases h
    · split at h
      · injection h with h; simp only [List.length_cons]; omega
      · split at h
        · split at h
          · cases h
          · cases hc : qt r with
            | none => rw [hc] at h; cases h
            | some m =>
              rw [hc] at h
              have k := qt_pos r _ hc
              simp only [Option.map_some, Option.some.injEq] at h
              simp only [List.length_cons]
              omega
        · cases hc : qt (y :: r) with
          | none => rw [hc] at h; cases h
          | some m =>
            rw [hc] at h
            have k := qt_pos (y :: r) _ hc
            simp only [Option.map_some, Option.some.injEq] at h
            simp only [List.length_cons] at k ⊢
            omega
theorem line_len : ∀ l : List Int, line l ≤ l.length
  | [] => Nat.le_refl _
  | x :: r => by
    rw [line]
    have := line_len r
    simp only [List.length_cons]
    split <;> omega
theorem gapN_len {l : List Int} {n : Nat} (h : gapN l = some n) : n ≤ l.length := by
  match l, h with
  | [], h => injection h with h; omega
  | [x], h =>
    rw [gapN] at h
    split at h <;> (injection h with h; simp only [List.length_cons]; omega)
  | x :: y :: r, h =>
    rw [gapN] at h
    split at h
    · injection h with h; simp only [List.length_cons]; omega
    · split at h
      · injection h with h; rw [← h]; exact line_len _
      · split at h
        · cases hc : cm 1 r with
          | none => rw [hc] at h; cases h
          | some m =>
            rw [hc] at h
            have k := cm_pos r _ _ hc
            simp only [Option.map_some, Option.some.injEq] at h
            simp only [List.length_cons]
            omega
        · injection h with h; omega
theorem tw_len (p : Int → Bool) : ∀ l : List Int, (l.takeWhile p).length ≤ l.length
  | [] => Nat.le_refl _
  | x :: r => by
    rw [List.takeWhile_cons]
    split
    · simp only [List.length_cons]; have := tw_len p r; omega
    · simp
theorem tokN_len {l : List Int} {k : Int} {t : List Int} {n : Nat} (h : tokN l = some (k, t, n)) : 1 ≤ n ∧ n ≤ l.length := by
  match l, h with
  | [], h => cases h
  | x :: r, h =>
    rw [tokN] at h
    split at h
    · injection h with h; injection h with h1 h2; injection h2 with h2 h3; simp only [List.length_cons]; omega
    · split at h
      · injection h with h; injection h with h1 h2; injection h2 with h2 h3; simp only [List.length_cons]; omega
      · split at h
        · cases hc : qt r with
          | none => rw [hc] at h; cases h
          | some m =>
            rw [hc] at h
            have q := qt_pos r _ hc
            simp only [Option.map_some, Option.some.injEq, Prod.mk.injEq] at h
            simp only [List.length_cons]
            omega
        · split at h
          · rename_i ha
            injection h with h; injection h with h1 h2; injection h2 with h2 h3
            rw [← h3]
            refine ⟨?_, tw_len _ _⟩
            rw [List.takeWhile_cons, if_pos ha]
            simp
          · cases h
end Go.Proofs.YtaidpcmndmjceaaDoor.Lx
