/- ref01.Put of a number without a sign writes the fewest bytes (out of wip/leb's PureLebPuts). -/
import Derived.Test.YtibeoejnfpbcfaaDoorQSect
import Derived.Test.YtibeoejnfpbcfaaDoorRSectSplitsx7
namespace Go.Proofs.YtibeoejnfpbcfaaDoor.QSect
open Go.RowKit Go.Proofs.YtibeoejnfpbcfaaDoorW.PrintWords Go.Proofs.YtibeoejnfpbcfaaDoorW.PrintLast Go.Proofs.YtibeoejnfpbcfaaDoorW.PrintMore Go.Proofs.YtibeoejnfpbcfaaDoor.RSectSplits Go.Proofs.YtibeoejnfpbcfaaDoor.Leb
set_option linter.unusedVariables false
set_option linter.unusedSimpArgs false
/-- The n bytes that the reference tries. -/
def putN : Nat → Int → List Int
  | 0, _ => []
  | 1, w => [w % 128]
  | n + 2, w => (w % 128 + 128) :: putN (n + 1) (w / 128)

theorem putN_bytes : ∀ n w, Bytes (putN n w)
  | 0, _ => fun x hx => by simp [putN] at hx
  | 1, w => fun x hx => by simp [putN] at hx; omega
  | n + 2, w => fun x hx => by
    rcases List.mem_cons.1 hx with rfl | hx
    · omega
    · exact putN_bytes (n + 1) (w / 128) x hx
theorem putN_length : ∀ n w, (putN n w).length = n
  | 0, _ => rfl
  | 1, _ => rfl
  | n + 2, w => by rw [putN, List.length_cons, putN_length (n + 1)]
theorem emod_split (w : Int) (P : Nat) : w % ((128 * P : Nat) : Int) = w % 128 + 128 * (w / 128 % (P : Int)) := by
  rcases Nat.eq_zero_or_pos P with rfl | hP
  · simp; have := Int.mul_ediv_add_emod w 128; omega
  · have h1 := Int.mul_ediv_add_emod w 128
    have h2 := Int.mul_ediv_add_emod (w / 128) (P : Int)
    have h3 := Int.emod_nonneg (w / 128) (show (P : Int) ≠ 0 by omega)
    have h4 := Int.emod_lt_of_pos (w / 128) (show (0 : Int) < P by omega)
    have e : w = (w % 128 + 128 * (w / 128 % (P : Int))) + ((128 * P : Nat) : Int) * (w / 128 / (P : Int)) := by
      rw [Int.natCast_mul, Int.mul_assoc]
      generalize (P : Int) * (w / 128 / (P : Int)) = z at *
      omega
    conv => lhs; rw [e]
    rw [Int.add_mul_emod_self_left, Int.emod_eq_of_lt (by omega) (by omega)]
theorem scan_putN : ∀ (n : Nat) (w : Int) (R : Nat), 1 ≤ n → n ≤ R → scan R (putN n w) = some ((w % ((128 ^ n : Nat) : Int)).toNat, n)
  | 0, _, _, h, _ => by omega
  | 1, w, R, _, h => by
    obtain ⟨R, rfl⟩ : ∃ m, R = m + 1 := ⟨R - 1, by omega⟩
    rw [putN, scan, if_pos (by omega)]; simp
  | n + 2, w, R, _, h => by
    obtain ⟨R, rfl⟩ : ∃ m, R = m + 1 := ⟨R - 1, by omega⟩
    rw [putN, scan, if_neg (by omega), scan_putN (n + 1) (w / 128) R (by omega) (by omega)]
    simp only [Option.map_some]
    have e := emod_split w (128 ^ (n + 1))
    rw [← Nat.pow_succ'] at e
    have hp : (0 : Int) < ((128 ^ (n + 1) : Nat) : Int) := by have := Nat.pow_pos (n := n + 1) (show 0 < 128 by decide); omega
    have h3 := Int.emod_nonneg (w / 128) (show ((128 ^ (n + 1) : Nat) : Int) ≠ 0 by omega)
    refine congrArg some (Prod.ext ?_ rfl)
    show _ = (w % ((128 ^ (n + 2) : Nat) : Int)).toNat
    rw [e]
    generalize w / 128 % ((128 ^ (n + 1) : Nat) : Int) = z at *
    omega

theorem putN_encU (n : Nat) : putN (encU n).length (n : Int) = encU n := by
  induction n using Nat.strongRecOn with
  | ind n ih =>
    by_cases h : n < 128
    · rw [encU_small h]; show [(n : Int) % 128] = _; rw [Int.emod_eq_of_lt (by omega) (by omega)]
    · rw [encU_great h]
      have hp := encU_pos (n / 128)
      obtain ⟨m, hm⟩ : ∃ m, (encU (n / 128)).length = m + 1 := ⟨_, (Nat.sub_add_cancel hp).symm⟩
      have := ih (n / 128) (by omega)
      rw [List.length_cons, hm]
      rw [hm] at this
      rw [putN, show (n : Int) / 128 = ((n / 128 : Nat) : Int) from by omega, this]
      congr 1
/-- What the reference reads of n tried bytes. -/
theorem Read_putN (w : Int) (n k : Nat) (sg : Bool) (h1 : 1 ≤ n) (h10 : n ≤ 10) (hk : 400 ≤ k) :
    grommetref01_Read.f k (putN n w) 0 64 sg = some (if sg = true then (if SIn (sgn (w % ((128 ^ n : Nat) : Int)).toNat n) 64 then (IntKind.u64.wrap (sgn (w % ((128 ^ n : Nat) : Int)).toNat n), (n : Int), true) else (0, 0, false)) else (if (w % ((128 ^ n : Nat) : Int)).toNat < 2 ^ 64 then (((w % ((128 ^ n : Nat) : Int)).toNat : Int), (n : Int), true) else (0, 0, false))) := by
  have := Read_f (putN n w) (putN_bytes n w) (by rw [putN_length]; omega) 64 0 k sg (by omega) (by omega) hk (by omega)
  rw [List.drop_zero, scan_putN n w _ h1 (by omega)] at this
  dsimp only at this
  rw [show ((0 : Nat) : Int) = 0 from rfl, show ((64 : Nat) : Int) = 64 from rfl] at this
  rw [this, Nat.zero_add]

/-- One byte of a try. -/
theorem Put_byte (v : Int) (sg : Bool) (n i k : Nat) (w : Int) (out : List Int) (hn : n ≤ 10) (hi : i < n) (ho : out.length < 1000)
    (hneg : sg = true ∧ v ≥ 9223372036854775808 → -9223372036854775808 ≤ w ∧ w < 0) (hpos : ¬ (sg = true ∧ v ≥ 9223372036854775808) → 0 ≤ w ∧ w < 18446744073709551616) :
    grommetref01_Put.l1 (k + 1 + 1) v sg (n : Int) out (w % 18446744073709551616) (i : Int) =
      grommetref01_Put.l1 k v sg (n : Int) (out ++ [if i + 1 < n then w % 128 + 128 else w % 128]) (w / 128 % 18446744073709551616) ((i + 1 : Nat) : Int) := by
  have hx0 := Int.emod_nonneg w (show (18446744073709551616 : Int) ≠ 0 by decide)
  have hx1 := Int.emod_lt_of_pos w (show (0 : Int) < 18446744073709551616 by decide)
  have em : w % 18446744073709551616 % 128 = w % 128 := by omega
  have e1 : IntKind.u64.wrap (w % 128 + 128) % 256 = w % 128 + 128 := by rw [wrap_u64]; omega
  have e2 : w % 128 % 256 = w % 128 := by omega
  have fin : ∀ (b : Bool), (b = true ↔ sg = true ∧ v ≥ 9223372036854775808) →
      grommetref01_Put.j2 (k + 1) v sg (n : Int) out (IntKind.u64.wrap (Int.tdiv (w % 18446744073709551616) 128)) (i : Int) (Int.tmod (w % 18446744073709551616) 128) b =
      grommetref01_Put.l1 k v sg (n : Int) (out ++ [if i + 1 < n then w % 128 + 128 else w % 128]) (w / 128 % 18446744073709551616) ((i + 1 : Nat) : Int) := by
    intro b hb
    rw [Int.tdiv_eq_ediv_of_nonneg hx0, Int.tmod_eq_emod_of_nonneg hx0, em]
    rw [grommetref01_Put.j2, w64 ((n : Int) - 1) (by omega) (by omega), w64 ((i : Int) + 1) (by omega) (by omega), e1, e2, show (i : Int) + 1 = ((i + 1 : Nat) : Int) from by omega]
    cases b with
    | true =>
      have hw := hneg (hb.1 rfl)
      rw [if_pos rfl]
      have hy : IntKind.u64.wrap (IntKind.u64.wrap (w % 18446744073709551616 / 128) + 18302628885633695744) = w / 128 % 18446744073709551616 := by rw [wrap_u64, wrap_u64]; omega
      rw [hy]
      by_cases hl : i + 1 < n
      · rw [if_pos (by omega), if_pos (by omega), if_pos hl]
      · rw [if_neg (by omega), if_pos (by omega), if_neg hl]
    | false =>
      have hw := hpos (fun h => by have := hb.2 h; cases this)
      rw [if_neg (by decide)]
      have hy : IntKind.u64.wrap (w % 18446744073709551616 / 128) = w / 128 % 18446744073709551616 := by rw [wrap_u64]; omega
      rw [hy]
      by_cases hl : i + 1 < n
      · rw [if_pos (by omega), if_pos (by omega), if_pos hl]
      · rw [if_neg (by omega), if_pos (by omega), if_neg hl]
  rw [grommetref01_Put.l1, if_pos (by omega)]
  cases sg with
  | true =>
    rw [if_pos rfl]
    exact fin _ (by simp)
  | false =>
    rw [if_neg (by decide)]
    exact fin false (by simp)

/-- One try. -/
theorem Put_l1 (v : Int) (sg : Bool) (n : Nat) (hn : n ≤ 10) : ∀ (d k i : Nat) (w : Int) (out : List Int), i + d = n → out.length + d < 1000 →
    (sg = true ∧ v ≥ 9223372036854775808 → -9223372036854775808 ≤ w ∧ w < 0) → (¬ (sg = true ∧ v ≥ 9223372036854775808) → 0 ≤ w ∧ w < 18446744073709551616) →
    ∃ y, grommetref01_Put.l1 (k + 2 * d) v sg (n : Int) out (w % 18446744073709551616) (i : Int) = grommetref01_Put.l1 k v sg (n : Int) (out ++ putN d w) y (n : Int) := by
  intro d
  induction d with
  | zero =>
    intro k i w out h ho h1 h2
    obtain rfl : i = n := by omega
    exact ⟨w % 18446744073709551616, by rw [putN, List.append_nil]; rfl⟩
  | succ d ih =>
    intro k i w out h ho h1 h2
    rw [show k + 2 * (d + 1) = (k + 2 * d) + 1 + 1 from by omega, Put_byte v sg n i (k + 2 * d) w out hn (by omega) (by omega) h1 h2]
    obtain ⟨y, hy⟩ := ih k (i + 1) (w / 128) (out ++ [if i + 1 < n then w % 128 + 128 else w % 128]) (by omega) (by simp; omega) (fun h => by have := h1 h; omega) (fun h => by have := h2 h; omega)
    refine ⟨y, ?_⟩
    rw [hy]
    congr 1
    rw [List.append_assoc]
    congr 1
    cases d with
    | zero => rw [if_neg (by omega)]; rfl
    | succ d => rw [if_pos (by omega)]; rfl

/-- The tries, up to the first that is read as the number. -/
theorem Put_l0 (v : Int) (sg : Bool) (w : Int) (E : List Int) (hE1 : 1 ≤ E.length) (hE10 : E.length ≤ 10) (hv : w % 18446744073709551616 = v)
    (h1 : sg = true ∧ v ≥ 9223372036854775808 → -9223372036854775808 ≤ w ∧ w < 0) (h2 : ¬ (sg = true ∧ v ≥ 9223372036854775808) → 0 ≤ w ∧ w < 18446744073709551616)
    (hE : putN E.length w = E)
    (hfit : ∀ k, 400 ≤ k → ∃ nx, grommetref01_Read.f k (putN E.length w) 0 64 sg = some (v, nx, true))
    (hnot : ∀ n k, 1 ≤ n → n < E.length → 400 ≤ k → ∃ r, grommetref01_Read.f k (putN n w) 0 64 sg = some r ∧ (r.2.2 = true → r.1 ≠ v)) :
    ∀ (d k n : Nat), n + d = E.length → 1 ≤ n → 500 + 30 * d ≤ k → grommetref01_Put.l0 k v sg (n : Int) = some E := by
  intro d
  have body : ∀ (k n : Nat), 1 ≤ n → n ≤ 10 → 450 ≤ k → ∃ j, 400 ≤ j ∧ k ≤ j + 30 ∧ grommetref01_Put.l0 k v sg (n : Int) = ((grommetref01_Read.f j (putN n w) 0 64 sg).bind fun bt => (if bt.2.2 = true then (if bt.1 = v then (some (putN n w)) else (grommetref01_Put.l0 j v sg ((n + 1 : Nat) : Int))) else (grommetref01_Put.l0 j v sg ((n + 1 : Nat) : Int)))) := by
    intro k n hn1 hn hk
    obtain ⟨j, rfl⟩ : ∃ j, k = ((j + 1) + 2 * n) + 1 := ⟨k - 2 * n - 2, by omega⟩
    refine ⟨j, by omega, by omega, ?_⟩
    rw [grommetref01_Put.l0, if_pos (by omega)]
    obtain ⟨y, hy⟩ := Put_l1 v sg n hn n (j + 1) 0 w [] (by omega) (by simp; omega) h1 h2
    rw [hv, show ((0 : Nat) : Int) = 0 from rfl] at hy
    rw [hy, grommetref01_Put.l1, if_neg (by omega), List.nil_append, w64 _ (by omega) (by omega), show (n : Int) + 1 = ((n + 1 : Nat) : Int) from by omega]
  induction d with
  | zero =>
    intro k n h hn hk
    obtain rfl : n = E.length := by omega
    obtain ⟨j, hj, _, e⟩ := body k E.length hn hE10 (by omega)
    obtain ⟨nx, hf⟩ := hfit j hj
    rw [e, hf]
    simp only [Option.bind_some, if_true]
    rw [hE]
  | succ d ih =>
    intro k n h hn hk
    obtain ⟨j, hj, hkj, e⟩ := body k n hn (by omega) (by omega)
    obtain ⟨⟨x, nx, ok⟩, hf, hne⟩ := hnot n j hn (by omega) hj
    rw [e, hf]
    simp only [Option.bind_some]
    have r := ih j (n + 1) (by omega) (by omega) (by omega)
    cases ok with
    | true => rw [if_pos rfl, if_neg (hne rfl)]; exact r
    | false => rw [if_neg (by decide)]; exact r

theorem Put_U (n k : Nat) (hn : n < 2 ^ 64) (hk : 900 ≤ k) : grommetref01_Put.f k (n : Int) false = some (encU n) := by
  have hp := encU_pos n
  have hl := encU_len 10 n (by omega) (Nat.lt_of_lt_of_le hn (by decide))
  unfold grommetref01_Put.f
  refine Put_l0 (n : Int) false (n : Int) (encU n) hp hl (by omega) (fun h => by simp at h) (fun _ => by omega) (putN_encU n) ?_ ?_ ((encU n).length - 1) k 1 (by omega) (by omega) (by omega)
  · intro k hk
    have hb := encU_below n
    refine ⟨((encU n).length : Int), ?_⟩
    rw [Read_putN (n : Int) (encU n).length k false hp hl hk]
    have e : ((n : Int) % ((128 ^ (encU n).length : Nat) : Int)).toNat = n := by rw [Int.emod_eq_of_lt (by omega) (by omega)]; rfl
    rw [e, if_neg (by decide), if_pos hn]
  · intro m k h1 hm hk
    refine ⟨_, Read_putN (n : Int) m k false h1 (by omega) hk, ?_⟩
    rw [if_neg (by decide)]
    intro hok hx
    have hlt : ¬ n < 128 ^ m := fun h => by have := encU_len m n h1 h; omega
    split at hx
    · have h3 := Int.emod_lt_of_pos (n : Int) (show (0 : Int) < ((128 ^ m : Nat) : Int) by have := Nat.pow_pos (n := m) (show 0 < 128 by decide); omega)
      have h4 := Int.emod_nonneg (n : Int) (show ((128 ^ m : Nat) : Int) ≠ 0 by have := Nat.pow_pos (n := m) (show 0 < 128 by decide); omega)
      dsimp only at hx
      omega
    · rename_i h; rw [if_neg h] at hok; cases hok

end Go.Proofs.YtibeoejnfpbcfaaDoor.QSect
