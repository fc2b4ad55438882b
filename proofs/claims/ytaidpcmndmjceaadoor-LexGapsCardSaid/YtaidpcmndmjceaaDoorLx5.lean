/- Plain facts: tokens written with blanks between are the same tokens when they are read again. -/
import Derived.Test.YtaidpcmndmjceaaDoorLx4
set_option linter.unusedVariables false
set_option linter.unusedSimpArgs false
namespace Go.Proofs.YtaidpcmndmjceaaDoor.Lx
open Go.RowKit Go.Proofs.YtaidpcmndmjceaaDoorW.PrintWords Go.Proofs.YtaidpcmndmjceaaDoorW.PrintLast Go.Proofs.YtaidpcmndmjceaaDoorW.PrintMore Go.Proofs.YtaidpcmndmjceaaDoor.RLexScans Go.Proofs.YtaidpcmndmjceaaDoor.Man
theorem bytes_str : ∀ {l : List Int}, Bytes l → bytesOf (strOfNums l) = l := by
  intro l h
  unfold strOfNums bytesOf
  show (l.map (fun n => UInt8.ofNat n.toNat)).map (fun b => (b.toNat : Int)) = l
  induction l with
  | nil => rfl
  | cons x r ih =>
    have hx := h x List.mem_cons_self
    rw [List.map_cons, List.map_cons, ih (fun y hy => h y (List.mem_cons_of_mem _ hy))]
    congr 1
    rw [UInt8.toNat_ofNat']
    omega
def shw (t : S36) : List Int := if t.f0 = 1 then [40] else if t.f0 = 2 then [41] else if t.f0 = 3 then 34 :: (bytesOf t.f2 ++ [34]) else bytesOf t.f2
def shows : List S36 → List Int
  | [] => []
  | t :: r => shw t ++ 32 :: shows r
def tokOK (t : S36) : Prop := (t.f0 = 1 ∧ t.f2 = ⟨#[]⟩) ∨ (t.f0 = 2 ∧ t.f2 = ⟨#[]⟩) ∨ (t.f0 = 3 ∧ ∀ r, qt (bytesOf t.f2 ++ 34 :: r) = some ((bytesOf t.f2).length + 1)) ∨ (t.f0 = 4 ∧ bytesOf t.f2 ≠ [] ∧ ∀ y ∈ bytesOf t.f2, atomB y = true)
theorem qt_loc : ∀ (l : List Int) (n : Nat), qt l = some n → ∀ r', qt (l.take (n - 1) ++ 34 :: r') = some n
  | [], n, h => by cases h
  | [x], n, h => by
    intro r'
    rw [qt] at h
    split at h
    · cases h
    · split at h
      · injection h with h; subst h; rw [Nat.sub_self, List.take_zero, List.nil_append, qt_cons, if_neg (by decide), if_pos rfl]
      · split at h
        · cases h
        · cases h
  | x :: y :: r, n, h => by
    intro r'
    rw [qt] at h
    split at h
    · cases h
    · rename_i hb
      split at h
      · injection h with h; subst h; rw [Nat.sub_self, List.take_zero, List.nil_append, qt_cons, if_neg (by decide), if_pos rfl]
      · rename_i h34
        split at h
        · rename_i h92
          split at h
          · cases h
          · rename_i hy
            cases hc : qt r with
            | none => rw [hc] at h; cases h
            | some m =>
              rw [hc] at h
              have hp := qt_pos r _ hc
              have k := qt_loc r _ hc r'
              simp only [Option.map_some, Option.some.injEq] at h
              subst h
              rw [show m + 2 - 1 = (m - 1) + 1 + 1 by omega, List.take_succ_cons, List.take_succ_cons, List.cons_append, List.cons_append, qt_cons, if_neg hb, if_neg h34, if_pos h92]
              simp only
              rw [if_neg hy, k]
              rfl
        · rename_i h92
          cases hc : qt (y :: r) with
          | none => rw [hc] at h; cases h
          | some m =>
            rw [hc] at h
            have hp := qt_pos (y :: r) _ hc
            have k := qt_loc (y :: r) _ hc r'
            simp only [Option.map_some, Option.some.injEq] at h
            subst h
            rw [show m + 1 - 1 = (m - 1) + 1 by omega, List.take_succ_cons, List.cons_append, qt_cons, if_neg hb, if_neg h34, if_neg h92, k]
            rfl
theorem tw_all (p : Int → Bool) : ∀ (l : List Int), ∀ y ∈ l.takeWhile p, p y = true
  | [], y, h => by cases h
  | x :: r, y, h => by
    rw [List.takeWhile_cons] at h
    split at h
    · rename_i hx
      rcases List.mem_cons.1 h with rfl | h
      · exact hx
      · exact tw_all p r y h
    · cases h
theorem tw_sub (p : Int → Bool) : ∀ (l : List Int), ∀ y ∈ l.takeWhile p, y ∈ l
  | [], y, h => by cases h
  | x :: r, y, h => by
    rw [List.takeWhile_cons] at h
    split at h
    · rcases List.mem_cons.1 h with rfl | h
      · exact List.mem_cons_self
      · exact List.mem_cons_of_mem _ (tw_sub p r y h)
    · cases h
theorem tokN_ok {l : List Int} {k : Int} {t : List Int} {n : Nat} (hb : Bytes l) (h : tokN l = some (k, t, n)) (p : Int) : tokOK ⟨k, p, strOfNums t⟩ ∧ (shw ⟨k, p, strOfNums t⟩).length = n := by
  match l, h with
  | [], h => cases h
  | x :: r, h =>
    rw [tokN] at h
    split at h
    · injection h with h; injection h with h1 h2; injection h2 with h2 h3
      subst h1 h2 h3
      exact ⟨.inl ⟨rfl, rfl⟩, rfl⟩
    · split at h
      · injection h with h; injection h with h1 h2; injection h2 with h2 h3
        subst h1 h2 h3
        exact ⟨.inr (.inl ⟨rfl, rfl⟩), rfl⟩
      · split at h
        · cases hc : qt r with
          | none => rw [hc] at h; cases h
          | some m =>
            rw [hc] at h
            have q := qt_pos r _ hc
            simp only [Option.map_some, Option.some.injEq, Prod.mk.injEq] at h
            obtain ⟨h1, h2, h3⟩ := h
            subst h1 h2 h3
            have hbt : bytesOf (strOfNums (r.take (m - 1))) = r.take (m - 1) := bytes_str (fun y hy => hb y (List.mem_cons_of_mem _ (List.mem_of_mem_take hy)))
            have hl : (r.take (m - 1)).length = m - 1 := by rw [List.length_take]; omega
            constructor
            · refine .inr (.inr (.inl ⟨rfl, fun r' => ?_⟩))
              show qt (bytesOf (strOfNums (r.take (m - 1))) ++ 34 :: r') = some ((bytesOf (strOfNums (r.take (m - 1)))).length + 1)
              rw [hbt, qt_loc r m hc r', hl]
              congr 1; omega
            · show (34 :: (bytesOf (strOfNums (r.take (m - 1))) ++ [34])).length = m + 1
              rw [hbt, List.length_cons, List.length_append, hl]
              simp only [List.length_cons, List.length_nil]
              omega
        · split at h
          · rename_i ha
            injection h with h; injection h with h1 h2; injection h2 with h2 h3
            subst h1 h2 h3
            have hbt : bytesOf (strOfNums ((x :: r).takeWhile atomB)) = (x :: r).takeWhile atomB := bytes_str (fun y hy => hb y (tw_sub _ _ y hy))
            constructor
            · refine .inr (.inr (.inr ⟨rfl, ?_, ?_⟩))
              · show bytesOf (strOfNums ((x :: r).takeWhile atomB)) ≠ []
                rw [hbt, List.takeWhile_cons, if_pos ha]
                simp
              · show ∀ y ∈ bytesOf (strOfNums ((x :: r).takeWhile atomB)), atomB y = true
                rw [hbt]
                exact tw_all _ _
            · show (bytesOf (strOfNums ((x :: r).takeWhile atomB))).length = _
              rw [hbt]
          · cases h
theorem scL_ok : ∀ (f : Nat) (l : List Int) (p : Nat) (out cs : List S36), Bytes l → scL f l p out = .ok cs → ∃ es, cs = out ++ es ∧ (∀ t ∈ es, tokOK t) ∧ (shows es).length ≤ l.length + es.length
  | 0, l, p, out, cs, hb, h => by rw [scL] at h; injection h with h; exact ⟨[], by rw [← h, List.append_nil], by simp, by simp [shows]⟩
  | f + 1, l, p, out, cs, hb, h => by
    rw [scL] at h
    split at h
    · injection h with h; exact ⟨[], by rw [← h, List.append_nil], by simp, by simp [shows]⟩
    · cases hg : gapN l with
      | none => rw [hg] at h; cases h
      | some g =>
        rw [hg] at h
        match g with
        | g + 1 =>
          obtain ⟨es, h1, h2, h3⟩ := scL_ok f _ _ _ cs (fun y hy => hb y (List.mem_of_mem_drop hy)) h
          rw [List.length_drop] at h3
          exact ⟨es, h1, h2, by omega⟩
        | 0 =>
          simp only at h
          cases ht : tokN l with
          | none => rw [ht] at h; cases h
          | some q =>
            obtain ⟨k, t, n⟩ := q
            have htl := tokN_len ht
            have hto := tokN_ok hb ht (p : Int)
            rw [ht] at h
            simp only at h
            split at h
            · cases h
            · obtain ⟨es, h1, h2, h3⟩ := scL_ok f _ _ _ cs (fun y hy => hb y (List.mem_of_mem_drop hy)) h
              rw [List.length_drop] at h3
              refine ⟨⟨k, (p : Int), strOfNums t⟩ :: es, by rw [h1, List.append_assoc]; rfl, ?_, ?_⟩
              · intro t' ht'
                rcases List.mem_cons.1 ht' with rfl | ht'
                · exact hto.1
                · exact h2 t' ht'
              · rw [shows, List.length_append, List.length_cons, hto.2, List.length_cons]
                omega
theorem atom_not : ∀ x ∈ atomsL, ¬ blankB x = true ∧ x ≠ 59 ∧ x ≠ 40 ∧ x ≠ 41 ∧ x ≠ 34 := by decide
theorem atom_mem {x : Int} (h : atomB x = true) : x ∈ atomsL := List.contains_iff_mem.1 h
theorem tw_app {p : Int → Bool} {y : Int} (hy : p y = false) (r : List Int) : ∀ (l : List Int), (∀ x ∈ l, p x = true) → (l ++ y :: r).takeWhile p = l
  | [], h => by rw [List.nil_append, List.takeWhile_cons, if_neg (by rw [hy]; decide)]
  | x :: l, h => by
    rw [List.cons_append, List.takeWhile_cons, if_pos (h x List.mem_cons_self), tw_app hy r l (fun z hz => h z (List.mem_cons_of_mem _ hz))]
theorem gap0 {x y : Int} (r : List Int) (h : ¬ blankB x = true) (h1 : x ≠ 59) (h2 : ¬ (x = 40 ∧ y = 59)) : gapN (x :: y :: r) = some 0 := by
  rw [gapN, if_neg h, if_neg (fun e => h1 e.1), if_neg h2]
theorem tok_shown (t : S36) (ok : tokOK t) (r : List Int) : shw t ≠ [] ∧ gapN (shw t ++ 32 :: r) = some 0 ∧ ∃ n tx, tokN (shw t ++ 32 :: r) = some (t.f0, tx, n) ∧ strOfNums tx = t.f2 ∧ (shw t ++ 32 :: r).drop n = 32 :: r := by
  rcases ok with ⟨h0, h2⟩ | ⟨h0, h2⟩ | ⟨h0, hq⟩ | ⟨h0, hn, ha⟩
  · have e : shw t = [40] := by unfold shw; rw [if_pos h0]
    rw [e, h0, h2]
    exact ⟨by simp, gap0 _ (by decide) (by decide) (by decide), 1, [], by rw [List.cons_append, tokN, if_pos rfl], rfl, rfl⟩
  · have e : shw t = [41] := by unfold shw; rw [if_neg (by omega), if_pos h0]
    rw [e, h0, h2]
    exact ⟨by simp, gap0 _ (by decide) (by decide) (by decide), 1, [], by rw [List.cons_append, tokN, if_neg (by decide), if_pos rfl], rfl, rfl⟩
  · have e : shw t = 34 :: (bytesOf t.f2 ++ [34]) := by unfold shw; rw [if_neg (by omega), if_neg (by omega), if_pos h0]
    have e2 : 34 :: (bytesOf t.f2 ++ [34]) ++ 32 :: r = 34 :: (bytesOf t.f2 ++ 34 :: 32 :: r) := by simp
    rw [e, h0, e2]
    refine ⟨by simp, ?_, (bytesOf t.f2).length + 2, bytesOf t.f2, ?_, str_bytes _, ?_⟩
    · cases bytesOf t.f2 with
      | nil => exact gap0 _ (by decide) (by decide) (by decide)
      | cons z zs => exact gap0 _ (by decide) (by decide) (by rintro ⟨h, _⟩; exact absurd h (by decide))
    · rw [tokN, if_neg (by decide), if_neg (by decide), if_pos rfl, hq (32 :: r)]
      show some ((3 : Int), (bytesOf t.f2 ++ 34 :: 32 :: r).take ((bytesOf t.f2).length + 1 - 1), (bytesOf t.f2).length + 1 + 1) = _
      rw [Nat.add_sub_cancel, List.take_left']
      rfl
    · rw [show (bytesOf t.f2).length + 2 = (bytesOf t.f2).length + 1 + 1 by omega, List.drop_succ_cons, ← List.drop_drop, List.drop_left' rfl]
      rfl
  · have e : shw t = bytesOf t.f2 := by unfold shw; rw [if_neg (by omega), if_neg (by omega), if_neg (by omega)]
    rw [e, h0]
    have h32 : atomB 32 = false := by decide
    refine ⟨hn, ?_, (bytesOf t.f2).length, bytesOf t.f2, ?_, str_bytes _, List.drop_left' rfl⟩
    · match hx : bytesOf t.f2, hn with
      | x :: xs, _ =>
        have hm := atom_not x (atom_mem (ha x (by rw [hx]; exact List.mem_cons_self)))
        cases xs with
        | nil => exact gap0 _ hm.1 hm.2.1 (fun h => hm.2.2.1 h.1)
        | cons z zs => exact gap0 _ hm.1 hm.2.1 (fun h => hm.2.2.1 h.1)
    · have htw := tw_app h32 r (bytesOf t.f2) ha
      match hx : bytesOf t.f2, hn with
      | x :: xs, _ =>
        have hxa := ha x (by rw [hx]; exact List.mem_cons_self)
        have hm := atom_not x (atom_mem hxa)
        rw [hx] at htw
        rw [List.cons_append] at htw ⊢
        rw [tokN, if_neg hm.2.2.1, if_neg hm.2.2.2.1, if_neg hm.2.2.2.2, if_pos hxa, htw]
theorem shows_len : ∀ (es : List S36), (∀ t ∈ es, tokOK t) → 2 * es.length ≤ (shows es).length
  | [], _ => by simp [shows]
  | t :: r, h => by
    have k := shows_len r (fun z hz => h z (List.mem_cons_of_mem _ hz))
    have n := (tok_shown t (h t List.mem_cons_self) []).1
    have : 0 < (shw t).length := List.length_pos_iff.2 n
    rw [shows, List.length_append, List.length_cons, List.length_cons]
    omega
theorem rescan : ∀ (es : List S36) (f p : Nat) (out : List S36), (∀ t ∈ es, tokOK t) → out.length + es.length ≤ 4096 → 2 * es.length < f → ∃ ds, scL f (shows es) p out = .ok (out ++ ds) ∧ keys false es = keys false ds
  | [], f, p, out, h, hl, hf => by
    obtain ⟨f, rfl⟩ : ∃ j, f = j + 1 := ⟨f - 1, by omega⟩
    exact ⟨[], by rw [shows, scL, if_pos rfl, List.append_nil], rfl⟩
  | t :: r, f, p, out, h, hl, hf => by
    simp only [List.length_cons] at hl hf
    obtain ⟨f, rfl⟩ : ∃ j, f = j + 1 + 1 := ⟨f - 2, by omega⟩
    obtain ⟨h1, h2, n, tx, h3, h4, h5⟩ := tok_shown t (h t List.mem_cons_self) (shows r)
    obtain ⟨ds, k1, k2⟩ := rescan r f (p + n + (0 + 1)) (out ++ [⟨t.f0, (p : Int), strOfNums tx⟩]) (fun z hz => h z (List.mem_cons_of_mem _ hz)) (by simp only [List.length_append, List.length_cons, List.length_nil]; omega) (by omega)
    refine ⟨⟨t.f0, (p : Int), strOfNums tx⟩ :: ds, ?_, ?_⟩
    · rw [shows, scL, if_neg (by simp), h2]
      simp only
      rw [h3]
      simp only
      rw [if_neg (by omega), h5, scL, if_neg (by simp)]
      have hg : gapN (32 :: shows r) = some (0 + 1) := by
        cases shows r with
        | nil => rw [gapN, if_pos (by decide)]
        | cons z zs => rw [gapN, if_pos (by decide)]
      rw [hg]
      simp only
      rw [List.drop_succ_cons, List.drop_zero, k1, List.append_assoc]
      rfl
    · unfold keys at k2 ⊢
      rw [List.map_cons, List.map_cons, k2, h4]
      rfl
end Go.Proofs.YtaidpcmndmjceaaDoor.Lx
