/- Plain facts on UTF-8: what name.read makes of bytes ('rdF'). -/
import Derived.Test.YtagaihiemomelaaDoorRNameReadsx1
import Derived.Laws.BitsLemmas
set_option linter.unusedVariables false
set_option linter.unusedSimpArgs false
namespace Go.Proofs.YtagaihiemomelaaDoor.Nm
open Go.RowKit Go.Proofs.YtagaihiemomelaaDoorW.PrintWords Go.Proofs.YtagaihiemomelaaDoorW.PrintMore Go.Proofs.YtagaihiemomelaaDoor.RNameReads
def Bytes (l : List Int) : Prop := ∀ x ∈ l, 0 ≤ x ∧ x < 256
def cont (x : Int) : Bool := decide (128 ≤ x) && decide (x < 192)
def isChar (c : Int) : Bool := decide (0 ≤ c) && decide (c ≤ 1114111) && (decide (c < 55296) || decide (57343 < c))
def width (c : Int) : Int := if c < 128 then 1 else if c < 2048 then 2 else if c < 65536 then 3 else 4
def lead (b : Int) : Int × Int := if b < 128 then (1, b) else if 192 ≤ b ∧ b < 224 then (2, b - 192) else if 224 ≤ b ∧ b < 240 then (3, b - 224) else if 240 ≤ b ∧ b < 248 then (4, b - 240) else (0, 0)
def fin (n c : Int) : Int × Int := if isChar c = true ∧ width c = n then (c, n) else (0, 0)
def go (n : Int) : Int → List Int → Int × Int
  | c, [] => fin n c
  | c, x :: r => if cont x = true then go n (c * 64 + (x - 128)) r else (0, 0)
/-- What name.read tells. -/
def rdF : List Int → Int × Int
  | [] => (0, 0)
  | b :: t => if (lead b).1 = 0 ∨ ((t.length + 1 : Nat) : Int) < (lead b).1 then (0, 0) else go (lead b).1 (lead b).2 (t.take ((lead b).1.toNat - 1))
theorem lead_f (b : Int) (h0 : 0 ≤ b) (h1 : b < 256) (k : Nat) : name_lead.f (k + 3) b = some (lead b) := by
  obtain ⟨a, rfl⟩ := Int.eq_ofNat_of_zero_le h0
  have : ∀ a : Fin 256, name_lead.f 3 ((a.val : Nat) : Int) = some (lead ((a.val : Nat) : Int)) := by decide +kernel
  have h := this ⟨a, by omega⟩
  induction k with
  | zero => exact h
  | succ k ih => exact name_lead.mono _ _ _ ih
theorem and192 (x : Int) (h0 : 0 ≤ x) (h1 : x < 256) : (Go.bits .and .u8 x 192 = 128) ↔ cont x = true := by
  obtain ⟨a, rfl⟩ := Int.eq_ofNat_of_zero_le h0
  have : ∀ a : Fin 256, (Go.bits .and .u8 ((a.val : Nat) : Int) 192 = 128) ↔ cont ((a.val : Nat) : Int) = true := by decide +kernel
  exact this ⟨a, by omega⟩
theorem and63 (x : Int) (h0 : 0 ≤ x) (h1 : x < 256) : Go.bits .and .u8 x 63 = x % 64 := by
  obtain ⟨a, rfl⟩ := Int.eq_ofNat_of_zero_le h0
  have : ∀ a : Fin 256, Go.bits .and .u8 ((a.val : Nat) : Int) 63 = ((a.val : Nat) : Int) % 64 := by decide +kernel
  exact this ⟨a, by omega⟩
theorem w64 (n : Int) (h0 : -9223372036854775808 ≤ n) (h1 : n < 9223372036854775808) : wrap64 n = n := by unfold wrap64; omega
theorem or64 (c x : Int) (h0 : 0 ≤ c) (h1 : c < 1073741824) (x0 : 0 ≤ x) (x1 : x < 64) : Go.bits .or .i64 (c * 64) x = c * 64 + x := by
  obtain ⟨a, rfl⟩ := Int.eq_ofNat_of_zero_le h0
  obtain ⟨b, rfl⟩ := Int.eq_ofNat_of_zero_le x0
  have ha : (a : Int) * 64 = ((2 ^ 6 * a : Nat) : Int) := by omega
  rw [ha]
  have hb : b < 2 ^ 6 := by omega
  have e : (2 ^ 6 * a) ||| b = 2 ^ 6 * a + b := (Nat.two_pow_add_eq_or_of_lt hb a).symm
  have hl : 2 ^ 6 * a + b < 2 ^ 63 := by omega
  have h := (bits_nat .i64 63 (by decide) (fun n h0 h => by rw [IntKind.wrap_i64]; omega) (2 ^ 6 * a) b (by omega) (by omega)).2
  rw [h, e]
  omega
theorem cont_range {x : Int} (h : cont x = true) : 128 ≤ x ∧ x < 192 := by
  unfold cont at h
  simp at h
  exact h
theorem char_f (c : Int) : name_char.f c = some (isChar c) := by
  unfold name_char.f isChar
  by_cases h1 : c ≥ 0
  · by_cases h2 : c ≤ 1114111
    · by_cases h3 : c < 55296
      · simp [h1, h2, h3]
      · simp [h1, h2, h3]
    · simp [h1, h2]
  · simp [h1]
theorem width_f (c : Int) : name_width.f c = some (width c) := by
  unfold name_width.f width
  split
  · rfl
  · split
    · rfl
    · split <;> rfl
theorem l0_go (n : Int) (L : List Int) (hL : Bytes L) : ∀ (r : List Int) (j k : Nat) (c : Int), r = L.drop j → j + r.length = L.length → L.length ≤ 3 → 0 ≤ c → c < 64 ^ (j + 1) →
    name_read.l0 (k + r.length + 1) n c L (L.length : Int) (j : Int) = some (go n c r)
  | [], j, k, c, hr, hj, h3, c0, c1 => by
    rw [name_read.l0, if_neg (by simp at hj; omega), char_f]
    simp only [Option.bind_some, width_f, go, fin]
    by_cases h : isChar c = true
    · rw [if_pos h]
      by_cases h' : width c = n
      · rw [if_pos h', if_pos ⟨h, h'⟩]
      · rw [if_neg h', if_neg (fun q => h' q.2)]
    · rw [if_neg h, if_neg (fun q => h q.1)]
  | x :: r, j, k, c, hr, hj, h3, c0, c1 => by
    have hlt : j < L.length := by simp at hj; omega
    have hx : rd L (j : Int) = x := by
      have : L[j]? = some x := by
        have h := congrArg (·[0]?) hr
        simp at h
        exact h.symm
      simp [rd, this]
    have hb : 0 ≤ x ∧ x < 256 := hL x (by
      have h : x ∈ L.drop j := by rw [← hr]; exact List.mem_cons_self ..
      exact List.mem_of_mem_drop h)
    have hj3 : j < 3 := by omega
    have hc : c < 1073741824 := by
      have : (64 : Int) ^ (j + 1) ≤ 64 ^ 3 := by
        have h := Nat.pow_le_pow_right (n := 64) (by decide) (show j + 1 ≤ 3 by omega)
        exact_mod_cast h
      omega
    have hk : k + (x :: r).length + 1 = (k + r.length + 1) + 1 := by simp; omega
    rw [hk, name_read.l0, if_pos (by omega), if_pos (by omega), if_pos (by omega), hx]
    by_cases h : cont x = true
    · have hr' := cont_range h
      rw [if_pos ((and192 x hb.1 hb.2).2 h), and63 x hb.1 hb.2, w64 (c * 64) (by omega) (by omega), w64 (x % 64) (by omega) (by omega), or64 c (x % 64) c0 hc (by omega) (by omega), w64 ((j : Int) + 1) (by omega) (by omega)]
      have e : c * 64 + x % 64 = c * 64 + (x - 128) := by omega
      have ej : (j : Int) + 1 = ((j + 1 : Nat) : Int) := rfl
      rw [e, ej, l0_go n L hL r (j + 1) k (c * 64 + (x - 128)) (by
        have h := congrArg List.tail hr
        simp at h
        rw [h]) (by simp at hj; omega) h3 (by omega) (by
          have : (64 : Int) ^ (j + 1 + 1) = 64 ^ (j + 1) * 64 := by rw [Int.pow_succ]
          omega)]
      simp only [go]
      rw [if_pos h]
    · rw [if_neg (fun q => h ((and192 x hb.1 hb.2).1 q))]
      simp only [go]
      rw [if_neg h]
theorem lead_n (b : Int) : (lead b).1 = 0 ∨ (lead b).1 = 1 ∨ (lead b).1 = 2 ∨ (lead b).1 = 3 ∨ (lead b).1 = 4 := by
  unfold lead
  repeat' split
  all_goals simp
theorem lead_c (b : Int) (h0 : 0 ≤ b) (h1 : b < 256) : 0 ≤ (lead b).2 ∧ ((lead b).1 = 1 → (lead b).2 < 128) ∧ ((lead b).1 ≠ 1 → (lead b).2 < 64) := by
  unfold lead
  repeat' split
  all_goals (refine ⟨?_, ?_, ?_⟩ <;> simp <;> omega)
theorem read_f (l : List Int) (hb : Bytes l) (hne : 0 < l.length) : name_read.f 9 l = some (rdF l) := by
  match l, hne with
  | b :: t, _ =>
    have h := hb b (List.mem_cons_self ..)
    have hr : rd (b :: t) 0 = b := by simp [rd]
    unfold name_read.f
    rw [if_pos (by simp), hr, show (9 : Nat) = 6 + 3 from rfl, lead_f b h.1 h.2 6]
    simp only [Option.bind_some, rdF]
    by_cases z : (lead b).1 = 0
    · rw [if_pos z, if_pos (Or.inl z), name_read.j0, if_pos rfl]
    · rw [if_neg z]
      have hlen : (((b :: t).length : Nat) : Int) = ((t.length + 1 : Nat) : Int) := by simp
      rw [hlen]
      by_cases q : ((t.length + 1 : Nat) : Int) < (lead b).1
      · rw [if_pos (Or.inr q), decide_eq_true q, name_read.j0, if_pos rfl]
      · have hn := lead_n b
        have hq : ¬ ((lead b).1 = 0 ∨ ((t.length + 1 : Nat) : Int) < (lead b).1) := by rintro (e | e); exact z e; exact q e
        have hL : ((b :: t).take (lead b).1.toNat).drop 1 = t.take ((lead b).1.toNat - 1) := by
          obtain ⟨m, hm⟩ : ∃ m, (lead b).1.toNat = m + 1 := ⟨(lead b).1.toNat - 1, by omega⟩
          rw [hm]; rfl
        rw [if_neg hq, decide_eq_false q, name_read.j0, if_neg (by decide), if_pos (by omega), if_pos (by simp; omega), hL]
        have hl3 : (t.take ((lead b).1.toNat - 1)).length ≤ 3 := by simp; omega
        have hc := lead_c b h.1 h.2
        generalize hLL : t.take ((lead b).1.toNat - 1) = LL at hl3 ⊢
        have hbb : Bytes LL := fun x hx => hb x (by rw [← hLL] at hx; exact List.mem_cons_of_mem _ (List.mem_of_mem_take hx))
        by_cases h1 : (lead b).1 = 1
        · have : LL = [] := by rw [← hLL, h1]; rfl
          subst this
          rw [h1]
          have := hc.2.1 h1
          rw [show (6 + 2 : Nat) = 7 + 1 from rfl, name_read.l0, if_neg (by simp), char_f]
          simp only [Option.bind_some, width_f, go, fin]
          by_cases h : isChar (lead b).2 = true
          · rw [if_pos h]
            by_cases h' : width (lead b).2 = 1
            · rw [if_pos h', if_pos ⟨h, h'⟩]
            · rw [if_neg h', if_neg (fun q => h' q.2)]
          · rw [if_neg h, if_neg (fun q => h q.1)]
        · have hm : (6 + 2 : Nat) = (7 - LL.length) + LL.length + 1 := by omega
          rw [hm]
          exact l0_go _ LL hbb LL 0 (7 - LL.length) _ rfl (by simp) hl3 hc.1 (by have := hc.2.2 h1; simpa using this)
end Go.Proofs.YtagaihiemomelaaDoor.Nm
