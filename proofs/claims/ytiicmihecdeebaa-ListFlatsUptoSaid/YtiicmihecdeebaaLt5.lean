/- Parse in plain words: parts; what is flat, parsed again. -/
import Derived.Test.YtiicmihecdeebaaLt3
set_option linter.unusedVariables false
set_option linter.unusedSimpArgs false
namespace Go.Proofs.Ytiicmihecdeebaa.Lt
open Go.RowKit Go.Proofs.YtiicmihecdeebaaW.PrintWords Go.Proofs.YtiicmihecdeebaaW.PrintLast Go.Proofs.YtiicmihecdeebaaW.PrintMore Go.Proofs.Ytiicmihecdeebaa.RListFlats
/-! #### the bottom frame -/
def addB (p : List S39) : List Fr → List Fr
  | [] => []
  | [f] => [⟨f.k, f.a, p ++ f.xs⟩]
  | f :: g :: r => f :: addB p (g :: r)
theorem addB_len (p : List S39) : ∀ st, (addB p st).length = st.length
  | [] => rfl
  | [f] => rfl
  | f :: g :: r => by rw [addB, List.length_cons, addB_len p (g :: r)]; rfl
theorem addB_push (p : List S39) (x : S39) : ∀ st, push x (addB p st) = addB p (push x st)
  | [] => rfl
  | [f] => by simp [addB, push]
  | f :: g :: r => rfl
theorem addB_cons (p : List S39) (f : Fr) : ∀ st : List Fr, st ≠ [] → addB p (f :: st) = f :: addB p st
  | [], h => absurd rfl h
  | g :: r, _ => rfl
theorem stp_addB (p : List S39) (t : S36) (st : List Fr) (h : st ≠ []) : stp t (addB p st) = (match stp t st with | .error e => .error e | .ok s => .ok (addB p s)) := by
  unfold stp
  by_cases h1 : t.f0 = 1
  · rw [if_pos h1, if_pos h1, addB_len]
    by_cases h2 : 64 < st.length
    · rw [if_pos h2, if_pos h2]
    · rw [if_neg h2, if_neg h2]
      simp only
      rw [addB_cons _ _ _ h]
  · rw [if_neg h1, if_neg h1]
    by_cases h2 : t.f0 = 2
    · rw [if_pos h2, if_pos h2]
      match st with
      | [] => exact absurd rfl h
      | [f] => rfl
      | f :: g :: r =>
        rw [addB_cons _ _ _ (by simp)]
        have e : addB p (g :: r) = (addB p (g :: r)) := rfl
        cases r with
        | nil => simp [addB, push]
        | cons q r => simp [addB, push]
    · rw [if_neg h2, if_neg h2]
      simp only
      rw [addB_push]
theorem stp_ne {t : S36} {st s : List Fr} (h : st ≠ []) (hs : stp t st = .ok s) : s ≠ [] := by
  unfold stp at hs
  split at hs
  · split at hs
    · cases hs
    · injection hs with hs; rw [← hs]; simp
  · split at hs
    · match st, hs with
      | [], hs => exact absurd rfl h
      | [f], hs => cases hs
      | f :: g :: r, hs => injection hs with hs; rw [← hs]; simp [push]
    · injection hs with hs
      rw [← hs]
      match st with
      | [] => exact absurd rfl h
      | f :: r => simp [push]
theorem run_addB (p : List S39) : ∀ (l : List S36) (st : List Fr), st ≠ [] → run l (addB p st) = (match run l st with | .error e => .error e | .ok s => .ok (addB p s))
  | [], st, _ => rfl
  | t :: l, st, h => by
    rw [run, stp_addB p t st h, run]
    cases hs : stp t st with
    | error e => rfl
    | ok s => exact run_addB p l s (stp_ne h hs)
theorem run_app : ∀ (a b : List S36) (st : List Fr), run (a ++ b) st = (match run a st with | .error e => .error e | .ok s => run b s)
  | [], b, st => rfl
  | t :: a, b, st => by
    rw [List.cons_append, run, run]
    cases hs : stp t st with
    | error e => rfl
    | ok s => exact run_app a b s
def bot (st : List Fr) : Option (Int × Int) := st.getLast?.map (fun f => (f.k, f.a))
theorem bot_cons (f : Fr) {st : List Fr} (h : st ≠ []) : bot (f :: st) = bot st := by
  unfold bot
  cases st with
  | nil => exact absurd rfl h
  | cons g r => rw [List.getLast?_cons_cons]
theorem bot_push (x : S39) (st : List Fr) : bot (push x st) = bot st := by
  match st with
  | [] => rfl
  | [f] => rfl
  | f :: g :: r => exact (bot_cons _ (st := g :: r) (by simp)).trans (bot_cons f (st := g :: r) (by simp)).symm
theorem stp_bot {t : S36} {st s : List Fr} (h : st ≠ []) (hs : stp t st = .ok s) : bot s = bot st := by
  unfold stp at hs
  split at hs
  · split at hs
    · cases hs
    · injection hs with hs; rw [← hs, bot_cons _ h]
  · split at hs
    · match st, hs with
      | [], hs => exact absurd rfl h
      | [f], hs => cases hs
      | f :: g :: r, hs => injection hs with hs; rw [← hs, bot_push]; exact (bot_cons f (st := g :: r) (by simp)).symm
    · injection hs with hs; rw [← hs, bot_push]
theorem run_bot : ∀ (l : List S36) (st s : List Fr), st ≠ [] → run l st = .ok s → s ≠ [] ∧ bot s = bot st
  | [], st, s, h, hs => by injection hs with hs; subst hs; exact ⟨h, rfl⟩
  | t :: l, st, s, h, hs => by
    rw [run] at hs
    cases h1 : stp t st with
    | error e => rw [h1] at hs; cases hs
    | ok s1 =>
      rw [h1] at hs
      obtain ⟨q1, q2⟩ := run_bot l s1 s (stp_ne h h1) hs
      exact ⟨q1, q2.trans (stp_bot h h1)⟩
/-- What Parse answers where it answers nodes. -/
theorem prsO_some {l : List S36} {ns : List S39} : prsO l = some ns ↔ l.any badK = false ∧ run l [⟨0, 0, []⟩] = .ok [⟨0, 0, ns⟩] := by
  unfold prsO prs
  constructor
  · intro h
    cases hb : l.any badK with
    | true => rw [hb] at h; cases h
    | false =>
      rw [hb] at h
      refine ⟨rfl, ?_⟩
      cases hr : run l [⟨0, 0, []⟩] with
      | error e => rw [hr] at h; cases h
      | ok s =>
        rw [hr] at h
        obtain ⟨q1, q2⟩ := run_bot l _ s (by simp) hr
        match s, h, q1, q2 with
        | [], h, q1, q2 => exact absurd rfl q1
        | [f], h, q1, q2 =>
          obtain ⟨k, a, xs⟩ := f
          injection h with h
          injection q2 with q2
          injection q2 with q3 q4
          have q3 : k = 0 := q3
          have q4 : a = 0 := q4
          have h : xs = ns := h
          subst q3 q4 h
          rfl
        | f :: g :: r, h, q1, q2 => cases h
  · rintro ⟨h1, h2⟩
    rw [h1, h2]
    rfl
/-- Parts. -/
theorem prsO_app {a b : List S36} {x y : List S39} (h1 : prsO a = some x) (h2 : prsO b = some y) : prsO (a ++ b) = some (x ++ y) := by
  obtain ⟨p1, p2⟩ := prsO_some.1 h1
  obtain ⟨q1, q2⟩ := prsO_some.1 h2
  refine prsO_some.2 ⟨by rw [List.any_append, p1, q1]; rfl, ?_⟩
  rw [run_app, p2]
  have e : ([⟨0, 0, x⟩] : List Fr) = addB x [⟨0, 0, []⟩] := by simp [addB]
  simp only
  rw [e, run_addB x b _ (by simp), q2]
  rfl
/-! #### flat -/
def flat : List S39 → List S36
  | [] => []
  | ⟨a, b, c, d⟩ :: r => (if a = 4 ∨ a = 3 then [⟨a, b, c⟩] else if a = 1 then [⟨1, b, ⟨#[]⟩⟩] ++ flat d ++ [⟨2, b, ⟨#[]⟩⟩] else []) ++ flat r
def cnt : List S39 → Nat
  | [] => 0
  | ⟨_, _, _, d⟩ :: r => 1 + cnt d + cnt r
theorem flat_app : ∀ a b, flat (a ++ b) = flat a ++ flat b
  | [], b => by simp [flat]
  | ⟨k, at_, s, d⟩ :: r, b => by rw [List.cons_append, flat, flat, flat_app r b, ← List.append_assoc]
theorem cnt_app : ∀ a b, cnt (a ++ b) = cnt a + cnt b
  | [], b => by simp [cnt]
  | ⟨k, at_, s, d⟩ :: r, b => by rw [List.cons_append, cnt, cnt, cnt_app r b]; omega
theorem cnt_len : ∀ a, a.length ≤ cnt a
  | [] => Nat.zero_le _
  | ⟨k, at_, s, d⟩ :: r => by rw [cnt, List.length_cons]; have := cnt_len r; omega
/-- Two tokens that Parse takes alike. -/
def rl (k t : S36) : Prop := k.f0 = t.f0 ∧ (k.f0 ≠ 2 → k.f1 = t.f1) ∧ (k.f0 = 3 ∨ k.f0 = 4 → k.f2 = t.f2)
inductive Rl : List S36 → List S36 → Prop
  | nil : Rl [] []
  | cons {k t : S36} {ks ts : List S36} : rl k t → Rl ks ts → Rl (k :: ks) (t :: ts)
theorem Rl.app {a b c d : List S36} (h : Rl a b) (h2 : Rl c d) : Rl (a ++ c) (b ++ d) := by
  induction h with
  | nil => exact h2
  | cons h _ ih => exact .cons h ih
theorem Rl.len {a b : List S36} (h : Rl a b) : a.length = b.length := by
  induction h with
  | nil => rfl
  | cons _ _ ih => simp [ih]
theorem Rl.at_ {a b : List S36} (h : Rl a b) : ∀ i : Int, 0 ≤ i → i < a.length → rl (rd_T36 a i) (rd_T36 b i) := by
  induction h with
  | nil => intro i h0 h1; simp at h1; omega
  | @cons k t ks ts h _ ih =>
    intro i h0 h1
    rcases Int.lt_or_le 0 i with hp | hp
    · have e : i.toNat = (i - 1).toNat + 1 := by omega
      have := ih (i - 1) (by omega) (by simp at h1; omega)
      unfold rd_T36 at this ⊢
      rw [e, List.getD_cons_succ, List.getD_cons_succ]
      exact this
    · have e : i = 0 := by omega
      subst e
      exact h
theorem rl_bad {k t : S36} (h : rl k t) : badK k = badK t := by unfold badK; rw [h.1]
theorem Rl.bad {a b : List S36} (h : Rl a b) : a.any badK = b.any badK := by
  induction h with
  | nil => rfl
  | cons h _ ih => rw [List.any_cons, List.any_cons, rl_bad h, ih]
theorem rl_stp {k t : S36} (h : rl k t) (hb : badK t = false) {st s : List Fr} (hs : stp t st = .ok s) : stp k st = .ok s := by
  obtain ⟨k0, k1, k2⟩ := k
  obtain ⟨t0, t1, t2⟩ := t
  obtain ⟨e, e1, e2⟩ := h
  simp only at e e1 e2
  subst e
  unfold stp at hs ⊢
  simp only at hs ⊢
  by_cases h1 : k0 = 1
  · subst h1
    rw [e1 (by decide)]
    exact hs
  · rw [if_neg h1] at hs ⊢
    by_cases h2 : k0 = 2
    · rw [if_pos h2] at hs ⊢
      match st, hs with
      | [], hs => cases hs
      | [f], hs => cases hs
      | f :: g :: r, hs => exact hs
    · rw [if_neg h2] at hs ⊢
      have h34 : k0 = 3 ∨ k0 = 4 := by
        unfold badK at hb
        simp at hb
        omega
      rw [e1 h2, e2 h34]
      exact hs
theorem Rl.run {a b : List S36} (h : Rl a b) : ∀ {st s : List Fr}, b.any badK = false → run b st = .ok s → Lt.run a st = .ok s := by
  induction h with
  | nil => intro st s _ hs; exact hs
  | @cons k t ks ts h _ ih =>
    intro st s hb hs
    rw [List.any_cons, Bool.or_eq_false_iff] at hb
    rw [Lt.run] at hs ⊢
    cases h1 : stp t st with
    | error e => rw [h1] at hs; cases hs
    | ok s1 =>
      rw [h1] at hs
      rw [rl_stp h hb.1 h1]
      exact ih hb.2 hs
/-- What stands on a stack, as tokens. -/
def flatS : List Fr → List S36
  | [] => []
  | [f] => flat f.xs
  | f :: g :: r => flatS (g :: r) ++ [⟨1, f.a, ⟨#[]⟩⟩] ++ flat f.xs
def cntS : List Fr → Nat
  | [] => 0
  | f :: r => 1 + cnt f.xs + cntS r
/-- The inner ones are lists. -/
def ins : List Fr → Prop
  | [] => True
  | [_] => True
  | f :: g :: r => f.k = 1 ∧ ins (g :: r)
theorem flatS_push (x : S39) : ∀ st, st ≠ [] → flatS (push x st) = flatS st ++ flat [x]
  | [], h => absurd rfl h
  | [f], _ => by simp [push, flatS, flat_app]
  | f :: g :: r, _ => by simp [push, flatS, flat_app]
theorem ins_push (x : S39) (st : List Fr) (h : ins st) : ins (push x st) := by
  match st, h with
  | [], h => exact h
  | [f], h => trivial
  | f :: g :: r, h => exact h
theorem cntS_push (x : S39) : ∀ st, st ≠ [] → cntS (push x st) = cntS st + cnt [x]
  | [], h => absurd rfl h
  | f :: r, _ => by simp [push, cntS, cnt_app]; omega
theorem rl_refl (k : S36) : rl k k := ⟨rfl, fun _ => rfl, fun _ => rfl⟩
theorem Rl_refl : ∀ l, Rl l l
  | [] => .nil
  | k :: l => .cons (rl_refl k) (Rl_refl l)
theorem stp_flat {t : S36} {st s : List Fr} {pre : List S36} (hn : st ≠ []) (hb : badK t = false) (hi : ins st) (hr : Rl (flatS st) pre) (hs : stp t st = .ok s) : ins s ∧ Rl (flatS s) (pre ++ [t]) ∧ cntS s ≤ cntS st + 1 := by
  obtain ⟨t0, t1, t2⟩ := t
  unfold stp at hs
  simp only at hs
  by_cases h1 : t0 = 1
  · subst h1
    rw [if_pos rfl] at hs
    split at hs
    · cases hs
    · injection hs with hs
      subst hs
      match st, hn with
      | [], hn => exact absurd rfl hn
      | g :: r, _ =>
        refine ⟨⟨rfl, hi⟩, ?_, by simp [cntS, cnt]; omega⟩
        rw [flatS]
        simp only [flat, List.append_nil]
        exact hr.app (.cons ⟨rfl, fun _ => rfl, fun h => by simp at h⟩ .nil)
  · rw [if_neg h1] at hs
    by_cases h2 : t0 = 2
    · subst h2
      rw [if_pos rfl] at hs
      match st, hn, hs, hi, hr with
      | [], hn, _, _, _ => exact absurd rfl hn
      | [f], _, hs, _, _ => cases hs
      | f :: g :: r, _, hs, hi, hr =>
        injection hs with hs
        subst hs
        refine ⟨ins_push _ _ hi.2, ?_, ?_⟩
        · rw [flatS_push _ _ (by simp), hi.1, flat, flat, List.append_nil]
          simp only [show ¬ ((1 : Int) = 4 ∨ (1 : Int) = 3) by decide, if_false, if_true]
          rw [← List.append_assoc, ← List.append_assoc]
          rw [flatS] at hr
          exact hr.app (.cons ⟨rfl, fun h => absurd rfl h, fun h => by simp at h⟩ .nil)
        · rw [cntS_push _ _ (by simp)]
          simp [cntS, cnt]
          omega
    · rw [if_neg h2] at hs
      injection hs with hs
      subst hs
      have h34 : t0 = 4 ∨ t0 = 3 := by
        unfold badK at hb
        simp at hb
        omega
      refine ⟨ins_push _ _ hi, ?_, by rw [cntS_push _ _ hn]; simp [cnt]⟩
      rw [flatS_push _ _ hn, flat, flat, List.append_nil, if_pos h34]
      exact hr.app (Rl_refl _)
theorem run_flat : ∀ (l pre : List S36) (st s : List Fr), st ≠ [] → l.any badK = false → ins st → Rl (flatS st) pre → run l st = .ok s → Rl (flatS s) (pre ++ l) ∧ cntS s ≤ cntS st + l.length
  | [], pre, st, s, _, _, _, hr, hs => by injection hs with hs; subst hs; rw [List.append_nil]; exact ⟨hr, by simp⟩
  | t :: l, pre, st, s, hn, hb, hi, hr, hs => by
    rw [List.any_cons, Bool.or_eq_false_iff] at hb
    rw [run] at hs
    cases h1 : stp t st with
    | error e => rw [h1] at hs; cases hs
    | ok s1 =>
      rw [h1] at hs
      obtain ⟨q1, q2, q3⟩ := stp_flat hn hb.1 hi hr h1
      obtain ⟨r1, r2⟩ := run_flat l (pre ++ [t]) s1 s (stp_ne hn h1) hb.2 q1 q2 hs
      rw [List.append_assoc] at r1
      exact ⟨r1, by rw [List.length_cons]; omega⟩
/-- What was parsed is what it was, flat; parsed again it is the same. -/
theorem prsO_flat {l : List S36} {ns : List S39} (h : prsO l = some ns) : Rl (flat ns) l ∧ cnt ns ≤ l.length ∧ prsO (flat ns) = some ns := by
  obtain ⟨h1, h2⟩ := prsO_some.1 h
  obtain ⟨q1, q2⟩ := run_flat l [] [⟨0, 0, []⟩] [⟨0, 0, ns⟩] (by simp) h1 trivial (by simp only [flatS, flat]; exact .nil) h2
  have q1 : Rl (flat ns) l := q1
  exact ⟨q1, by simp [cntS, cnt] at q2; omega, prsO_some.2 ⟨q1.bad.trans h1, q1.run h1 h2⟩⟩
end Go.Proofs.Ytiicmihecdeebaa.Lt
