/- Plain facts: what lex.comment, quoted, skip and token answer, over a text's bytes. -/
import Derived.Test.YtaidpcmndmjceaaDoorLx0
import Derived.Test.YtaidpcmndmjceaaDoorRLexScansx2
set_option linter.unusedVariables false
set_option linter.unusedSimpArgs false
namespace Go.Proofs.YtaidpcmndmjceaaDoor.Lx
open Go.RowKit Go.Proofs.YtaidpcmndmjceaaDoorW.PrintWords Go.Proofs.YtaidpcmndmjceaaDoorW.PrintLast Go.Proofs.YtaidpcmndmjceaaDoorW.PrintMore Go.Proofs.YtaidpcmndmjceaaDoor.RLexScans Go.Proofs.YtaidpcmndmjceaaDoor.Man
theorem by_bytes (s : ByteArray) : Bytes (bytesOf s) := by
  intro x hx
  unfold bytesOf at hx
  obtain ⟨b, _, rfl⟩ := List.mem_map.1 hx
  have := b.toNat_lt
  omega
theorem drop_bt (s : ByteArray) (i : Nat) (h : i < s.size) : (bytesOf s).drop i = bt s (i : Int) :: (bytesOf s).drop (i + 1) := by
  have hl : i < (bytesOf s).length := by rw [bytesOf_length]; exact h
  rw [← rd_bytesOf]
  unfold rd
  rw [Int.toNat_natCast, List.getD_eq_getElem?_getD, List.getElem?_eq_getElem hl]
  exact List.drop_eq_getElem_cons hl
theorem drop_end (s : ByteArray) (i : Nat) (h : s.size ≤ i) : (bytesOf s).drop i = [] := List.drop_eq_nil_of_le (by rw [bytesOf_length]; exact h)
theorem str_bytes (t : ByteArray) : strOfNums (bytesOf t) = t := by
  obtain ⟨⟨u⟩⟩ := t
  unfold strOfNums bytesOf
  have e : ∀ u : List UInt8, (u.map fun b => (b.toNat : Int)).map (fun n => UInt8.ofNat n.toNat) = u := by
    intro u
    induction u with
    | nil => rfl
    | cons b u ih => rw [List.map_cons, List.map_cons, ih, Int.toNat_natCast, UInt8.ofNat_toNat]
  rw [e]
theorem map_inj8 : ∀ a b : List UInt8, a.map (fun b => (b.toNat : Int)) = b.map (fun b => (b.toNat : Int)) → a = b
  | [], [], _ => rfl
  | [], _ :: _, h => by cases h
  | _ :: _, [], h => by cases h
  | x :: a, y :: b, h => by
    rw [List.map_cons, List.map_cons] at h
    injection h with h1 h2
    rw [map_inj8 a b h2, UInt8.toNat_inj.1 (show x.toNat = y.toNat by omega)]
theorem bytes_extract (s : ByteArray) (a b : Nat) : bytesOf (s.extract a b) = ((bytesOf s).drop a).take (b - a) := by
  unfold bytesOf
  rw [Lib.extract_data, List.map_take, List.map_drop]
theorem ext_str (s : ByteArray) (a b : Nat) : s.extract a b = strOfNums (((bytesOf s).drop a).take (b - a)) := by rw [← bytes_extract, str_bytes]
theorem toList_iff (t : ByteArray) (us : List UInt8) : t.toList = us ↔ bytesOf t = us.map fun b => (b.toNat : Int) := by
  rw [Lib.toList_data]
  unfold bytesOf
  constructor
  · intro h; rw [h]
  · intro h
    exact map_inj8 _ _ h
theorem prefix2 (t : ByteArray) (a b : UInt8) : strings_HasPrefix.f t ⟨#[a, b]⟩ = some (decide ((bytesOf t).take 2 = [(a.toNat : Int), (b.toNat : Int)])) := by
  unfold strings_HasPrefix.f stringslite_HasPrefix.f
  have e2 : ((⟨#[a, b]⟩ : ByteArray).size : Int) = 2 := rfl
  have el : (⟨#[a, b]⟩ : ByteArray).toList = [a, b] := by rw [Lib.toList_data]
  rw [e2, el]
  by_cases h : (t.size : Int) ≥ 2
  · rw [if_pos h, if_pos (by decide), if_pos h, Option.bind_some]
    congr 1
    have k := toList_iff (t.extract 0 2) [a, b]
    rw [bytes_extract] at k
    simp only [List.drop_zero, Nat.sub_zero, List.map_cons, List.map_nil] at k
    rw [Bool.eq_iff_iff, beq_iff_eq, decide_eq_true_iff]
    exact k
  · rw [if_neg h, Option.bind_some]
    congr 1
    symm
    rw [decide_eq_false_iff_not]
    intro e
    have k := congrArg List.length e
    rw [List.length_take, bytesOf_length] at k
    simp only [List.length_cons, List.length_nil] at k
    omega
theorem u8_of (x : Int) (h0 : 0 ≤ x) (h1 : x < 256) : x.toNat.toUInt8.toNat = x.toNat := by
  show (UInt8.ofNat x.toNat).toNat = x.toNat
  rw [UInt8.toNat_ofNat']
  omega
theorem blank_fin : ∀ x : Fin 256, decide (0 ≤ Lib.indexByte [32, 9, 10, 13] (x.val.toUInt8)) = blankB (x.val : Int) := by decide +kernel
theorem atom_fin : ∀ x : Fin 256, decide (0 ≤ Lib.indexByte [97, 98, 99, 100, 101, 102, 103, 104, 105, 106, 107, 108, 109, 110, 111, 112, 113, 114, 115, 116, 117, 118, 119, 120, 121, 122, 65, 66, 67, 68, 69, 70, 71, 72, 73, 74, 75, 76, 77, 78, 79, 80, 81, 82, 83, 84, 85, 86, 87, 88, 89, 90, 48, 49, 50, 51, 52, 53, 54, 55, 56, 57, 33, 35, 36, 37, 38, 39, 42, 43, 45, 46, 47, 58, 60, 61, 62, 63, 64, 92, 94, 95, 96, 124, 126] (x.val.toUInt8)) = atomB (x.val : Int) := by decide +kernel
theorem blank_i (x : Int) (h0 : 0 ≤ x) (h1 : x < 256) : (0 ≤ Lib.indexByte [32, 9, 10, 13] x.toNat.toUInt8) ↔ blankB x = true := by
  obtain ⟨n, rfl⟩ := Int.eq_ofNat_of_zero_le h0
  have k := blank_fin ⟨n, by omega⟩
  simp only at k
  rw [Int.toNat_natCast, ← k, decide_eq_true_iff]
theorem atom_i (x : Int) (h0 : 0 ≤ x) (h1 : x < 256) : (0 ≤ Lib.indexByte [97, 98, 99, 100, 101, 102, 103, 104, 105, 106, 107, 108, 109, 110, 111, 112, 113, 114, 115, 116, 117, 118, 119, 120, 121, 122, 65, 66, 67, 68, 69, 70, 71, 72, 73, 74, 75, 76, 77, 78, 79, 80, 81, 82, 83, 84, 85, 86, 87, 88, 89, 90, 48, 49, 50, 51, 52, 53, 54, 55, 56, 57, 33, 35, 36, 37, 38, 39, 42, 43, 45, 46, 47, 58, 60, 61, 62, 63, 64, 92, 94, 95, 96, 124, 126] x.toNat.toUInt8) ↔ atomB x = true := by
  obtain ⟨n, rfl⟩ := Int.eq_ofNat_of_zero_le h0
  have k := atom_fin ⟨n, by omega⟩
  simp only at k
  rw [Int.toNat_natCast, ← k, decide_eq_true_iff]
theorem idx_line : ∀ u : List UInt8, line (u.map fun b => (b.toNat : Int)) = (if 0 ≤ Lib.indexByte u 10 then (Lib.indexByte u 10).toNat + 1 else u.length) ∧ -1 ≤ Lib.indexByte u 10
  | [] => ⟨rfl, by decide⟩
  | b :: u => by
    obtain ⟨h1, h2⟩ := idx_line u
    rw [List.map_cons, line, Lib.indexByte]
    by_cases hb : b = 10
    · subst hb
      rw [if_pos (show (((10 : UInt8).toNat : Nat) : Int) = 10 from rfl), if_pos (show ((10 : UInt8) == 10) = true from rfl)]
      exact ⟨rfl, by decide⟩
    · have hb2 : ¬ ((b.toNat : Int) = 10) := fun e => hb (UInt8.toNat_inj.1 (by show b.toNat = 10; omega))
      have hbb : (b == 10) = false := beq_eq_false_iff_ne.2 hb
      rw [if_neg hb2, hbb, h1]
      generalize Lib.indexByte u 10 = ix at h2
      simp only [Bool.false_eq_true, if_false]
      by_cases hn : ix = -1
      · subst hn
        exact ⟨rfl, by decide⟩
      · have hnn : (ix == -1) = false := beq_eq_false_iff_ne.2 hn
        rw [hnn]
        simp only [Bool.false_eq_true, if_false]
        rw [if_pos (show 0 ≤ ix by omega), if_pos (show 0 ≤ ix + 1 by omega)]
        omega
def pos (at_ : Nat) : Option Nat → Int
  | none => -1
  | some n => ((at_ + n : Nat) : Int)
theorem w64i (n : Int) (h0 : -1000000 ≤ n) (h1 : n < 1000000) : wrap64 n = n := by unfold wrap64; omega
/-- The pairs in the text. -/
theorem take2 (s : ByteArray) (i : Nat) (h : i + 1 < s.size) (a b : UInt8) : ((s.extract (i : Int).toNat (((i : Int) + 2) : Int).toNat).toList = ([a, b] : List UInt8)) ↔ (bt s (i : Int) = (a.toNat : Int) ∧ bt s ((i : Int) + 1) = (b.toNat : Int)) := by
  rw [toList_iff, bytes_extract, Int.toNat_natCast, show ((i : Int) + 2).toNat - i = 2 by omega, drop_bt s i (by omega), drop_bt s (i + 1) h]
  simp only [List.take_succ_cons, List.take_zero, List.map_cons, List.map_nil, List.cons.injEq, and_true]
  rfl
theorem comment_l0 (s : ByteArray) (hs : s.size ≤ 100000) : ∀ (m i k d : Nat), s.size ≤ i + m → i ≤ s.size → 1 ≤ d → d + (s.size - i) ≤ 200000 → m < k → lex_comment.l0 k s (i : Int) (d : Int) = some (pos i (cm d ((bytesOf s).drop i))) := by
  intro m
  induction m using Nat.strongRecOn with
  | ind m ih =>
    intro i k d h1 h2 h3 h4 h5
    obtain ⟨k, rfl⟩ : ∃ j, k = j + 1 := ⟨k - 1, by omega⟩
    rw [lex_comment.l0, w64i ((i : Int) + 1) (by omega) (by omega), w64i ((i : Int) + 2) (by omega) (by omega), w64i ((d : Int) + 1) (by omega) (by omega), w64i ((d : Int) - 1) (by omega) (by omega)]
    by_cases hlt : i + 1 < s.size
    · rw [if_pos (by omega), if_pos (by omega), if_pos (by omega), if_pos (by omega)]
      have e1 := take2 s i hlt 40 59
      have e2 := take2 s i hlt 59 41
      have u40 : (((40 : UInt8).toNat : Nat) : Int) = 40 := rfl
      have u59 : (((59 : UInt8).toNat : Nat) : Int) = 59 := rfl
      have u41 : (((41 : UInt8).toNat : Nat) : Int) = 41 := rfl
      rw [u40, u59] at e1
      rw [u59, u41] at e2
      have ei : ((i : Int) + 1) = ((i + 1 : Nat) : Int) := by omega
      have hd : (bytesOf s).drop i = bt s (i : Int) :: bt s ((i : Int) + 1) :: (bytesOf s).drop (i + 2) := by rw [drop_bt s i (by omega), drop_bt s (i + 1) hlt, ei]
      have hd1 : (bytesOf s).drop (i + 1) = bt s ((i : Int) + 1) :: (bytesOf s).drop (i + 2) := by rw [drop_bt s (i + 1) hlt, ei]
      rw [hd, cm]
      by_cases c1 : bt s (i : Int) = 40 ∧ bt s ((i : Int) + 1) = 59
      · rw [if_pos (e1.2 c1), if_pos c1]
        have k1 := ih (m - 2) (by omega) (i + 2) k (d + 1) (by omega) (by omega) (by omega) (by omega) (by omega)
        rw [show ((i : Int) + 2) = ((i + 2 : Nat) : Int) by omega, show ((d : Int) + 1) = ((d + 1 : Nat) : Int) by omega, k1]
        cases cm (d + 1) ((bytesOf s).drop (i + 2)) with
        | none => rfl
        | some n => simp only [pos, Option.map_some]; congr 1; omega
      · rw [if_neg (fun h => c1 (e1.1 h)), if_neg c1]
        by_cases c2 : bt s (i : Int) = 59 ∧ bt s ((i : Int) + 1) = 41
        · rw [if_pos (e2.2 c2), if_pos c2]
          by_cases hd1' : d ≤ 1
          · rw [if_pos (by omega), if_pos hd1']
            rfl
          · rw [if_neg (by omega), if_neg hd1']
            have k1 := ih (m - 2) (by omega) (i + 2) k (d - 1) (by omega) (by omega) (by omega) (by omega) (by omega)
            rw [show ((i : Int) + 2) = ((i + 2 : Nat) : Int) by omega, show ((d : Int) - 1) = ((d - 1 : Nat) : Int) by omega, k1]
            cases cm (d - 1) ((bytesOf s).drop (i + 2)) with
            | none => rfl
            | some n => simp only [pos, Option.map_some]; congr 1; omega
        · rw [if_neg (fun h => c2 (e2.1 h)), if_neg c2]
          have k1 := ih (m - 1) (by omega) (i + 1) k d (by omega) (by omega) (by omega) (by omega) (by omega)
          rw [ei, k1, hd1, ei]
          cases cm d (bt s ((i + 1 : Nat) : Int) :: (bytesOf s).drop (i + 2)) with
          | none => rfl
          | some n => simp only [pos, Option.map_some]; congr 1; omega
    · rw [if_neg (by omega)]
      have hl : (bytesOf s).drop i = [] ∨ ∃ x, (bytesOf s).drop i = [x] := by
        rcases Nat.lt_or_ge i s.size with q | q
        · exact .inr ⟨_, by rw [drop_bt s i q, drop_end s (i + 1) (by omega)]⟩
        · exact .inl (drop_end s i q)
      rcases hl with hl | ⟨x, hl⟩ <;> (rw [hl]; rfl)
theorem comment_f (s : ByteArray) (hs : s.size ≤ 100000) (i k : Nat) (r : List Int) (h : (bytesOf s).drop i = 40 :: 59 :: r) (hk : s.size + 2 ≤ k) : lex_comment.f k s (i : Int) = some (pos i ((cm 1 r).map (· + 2))) := by
  have hlen := congrArg List.length h
  rw [List.length_drop, bytesOf_length] at hlen
  simp only [List.length_cons] at hlen
  have hlt : i + 1 < s.size := by omega
  obtain ⟨k, rfl⟩ : ∃ j, k = j + 1 := ⟨k - 1, by omega⟩
  have ei : ((i : Int) + 1) = ((i + 1 : Nat) : Int) := by omega
  have hd : (bytesOf s).drop i = bt s (i : Int) :: bt s ((i : Int) + 1) :: (bytesOf s).drop (i + 2) := by rw [drop_bt s i (by omega), drop_bt s (i + 1) hlt, ei]
  rw [hd] at h
  injection h with h1 h
  injection h with h2 h3
  unfold lex_comment.f
  rw [lex_comment.l0, w64i ((i : Int) + 1) (by omega) (by omega), w64i ((i : Int) + 2) (by omega) (by omega), w64i ((0 : Int) + 1) (by omega) (by omega), if_pos (by omega), if_pos (by omega), if_pos (by omega), if_pos (by omega)]
  rw [if_pos ((take2 s i hlt 40 59).2 ⟨h1, h2⟩)]
  have k1 := comment_l0 s hs (s.size - (i + 2)) (i + 2) k 1 (by omega) (by omega) (by omega) (by omega) (by omega)
  rw [show ((i : Int) + 2) = ((i + 2 : Nat) : Int) by omega, show ((0 : Int) + 1) = ((1 : Nat) : Int) by omega, k1, h3]
  cases cm 1 r with
  | none => rfl
  | some n => simp only [pos, Option.map_some]; congr 1; omega
theorem skip_f (s : ByteArray) (hs : s.size ≤ 100000) (i k : Nat) (hi : i < s.size) (hk : s.size + 2 ≤ k) : lex_skip.f k s (i : Int) = some (pos i (gapN ((bytesOf s).drop i))) := by
  have hr := bt_range s (i : Int)
  unfold lex_skip.f
  rw [if_pos (by omega), if_pos (by omega)]
  unfold strings_IndexByte.f
  rw [Option.bind_some]
  have hb := blank_i (bt s (i : Int)) hr.1 (by omega)
  have hb' : (Lib.indexByte (⟨#[32, 9, 10, 13]⟩ : ByteArray).data.toList (bt s (i : Int)).toNat.toUInt8 ≥ 0) ↔ blankB (bt s (i : Int)) = true := hb
  by_cases c0 : blankB (bt s (i : Int)) = true
  · rw [if_pos (hb'.2 c0), w64i _ (by omega) (by omega), drop_bt s i hi]
    have : gapN (bt s (i : Int) :: (bytesOf s).drop (i + 1)) = some 1 := by
      cases (bytesOf s).drop (i + 1) with
      | nil => rw [gapN, if_pos c0]
      | cons y r => rw [gapN, if_pos c0]
    rw [this]
    rfl
  · rw [if_neg (fun h => c0 (hb'.1 h)), if_pos (by omega)]
    have hx : bytesOf (s.extract (i : Int).toNat s.size) = (bytesOf s).drop i := by
      rw [bytes_extract, Int.toNat_natCast, List.take_of_length_le (by rw [List.length_drop, bytesOf_length]; omega)]
    have p1 := prefix2 (s.extract (i : Int).toNat s.size) 59 59
    have p2 := prefix2 (s.extract (i : Int).toNat s.size) 40 59
    have u40 : (((40 : UInt8).toNat : Nat) : Int) = 40 := rfl
    have u59 : (((59 : UInt8).toNat : Nat) : Int) = 59 := rfl
    rw [hx, u59] at p1
    rw [hx, u40, u59] at p2
    rw [p1, p2, Option.bind_some, Option.bind_some]
    rcases Nat.lt_or_ge (i + 1) s.size with q | q
    · have hd : (bytesOf s).drop i = bt s (i : Int) :: bt s ((i + 1 : Nat) : Int) :: (bytesOf s).drop (i + 2) := by rw [drop_bt s i (by omega), drop_bt s (i + 1) q]
      have t2 : ((bytesOf s).drop i).take 2 = [bt s (i : Int), bt s ((i + 1 : Nat) : Int)] := by rw [hd]; rfl
      rw [t2]
      generalize bt s (i : Int) = x at hd c0
      generalize bt s ((i + 1 : Nat) : Int) = y at hd
      by_cases c1 : x = 59 ∧ y = 59
      · rw [if_pos (by rw [c1.1, c1.2]; rfl)]
        have hl := idx_line (s.extract (i : Int).toNat s.size).data.toList
        have hm : ((s.extract (i : Int).toNat s.size).data.toList.map fun b => (b.toNat : Int)) = (bytesOf s).drop i := hx
        have hsz : (s.extract (i : Int).toNat s.size).data.toList.length = s.size - i := by
          have z := congrArg List.length hm
          rw [List.length_map, List.length_drop, bytesOf_length] at z
          exact z
        rw [hm] at hl
        have g1 : gapN ((bytesOf s).drop i) = some (line ((bytesOf s).drop i)) := by
          rw [hd, gapN, if_neg c0, if_pos c1]
        have hll := line_len ((bytesOf s).drop i)
        rw [List.length_drop, bytesOf_length] at hll
        rw [g1]
        show (if Lib.indexByte (s.extract (i : Int).toNat s.size).data.toList 10 ≥ 0 then some (wrap64 (wrap64 ((i : Int) + Lib.indexByte (s.extract (i : Int).toNat s.size).data.toList 10) + 1)) else some (s.size : Int)) = _
        generalize Lib.indexByte (s.extract (i : Int).toNat s.size).data.toList 10 = ix at hl
        by_cases c2 : 0 ≤ ix
        · rw [if_pos c2] at hl
          rw [if_pos c2, w64i ((i : Int) + ix) (by omega) (by omega), w64i _ (by omega) (by omega), hl.1]
          simp only [pos]
          congr 1
          omega
        · rw [if_neg c2, hsz] at hl
          rw [if_neg c2, hl.1]
          simp only [pos]
          congr 1
          omega
      · rw [if_neg (by simp only [List.cons.injEq, and_true, decide_eq_true_eq]; exact c1), Option.bind_some]
        by_cases c2 : x = 40 ∧ y = 59
        · rw [if_pos (by rw [c2.1, c2.2]; rfl)]
          have hd2 := hd
          rw [c2.1, c2.2] at hd2
          rw [comment_f s hs i k _ hd2 hk, Option.bind_some, hd2, gapN, if_neg (by rw [c2.1] at c0; exact c0), if_neg (by decide), if_pos ⟨rfl, rfl⟩]
        · rw [if_neg (by simp only [List.cons.injEq, and_true, decide_eq_true_eq]; exact c2), hd, gapN, if_neg c0, if_neg c1, if_neg c2]
          rfl
    · have hd : (bytesOf s).drop i = [bt s (i : Int)] := by rw [drop_bt s i hi, drop_end s (i + 1) q]
      rw [hd]
      rw [if_neg (by simp), Option.bind_some, if_neg (by simp), gapN, if_neg c0]
      rfl
theorem bad_iff (x : Int) : badB x = true ↔ (x < 32 ∨ x = 127) := by unfold badB; rw [decide_eq_true_iff]
theorem quoted_l0 (s : ByteArray) (hs : s.size ≤ 100000) : ∀ (m i k : Nat), s.size ≤ i + m → i ≤ s.size + 1 → 2 * m + 2 ≤ k → lex_quoted.l0 k s (i : Int) = some (pos i (qt ((bytesOf s).drop i))) := by
  intro m
  induction m using Nat.strongRecOn with
  | ind m ih =>
    intro i k h1 h2 h5
    obtain ⟨k, rfl⟩ : ∃ j, k = j + 1 + 1 := ⟨k - 2, by omega⟩
    rw [lex_quoted.l0]
    by_cases hlt : i < s.size
    · rw [if_pos (by omega), if_pos (by omega), drop_bt s i hlt, qt_cons]
      have j1 : ∀ bad : Bool, (bad = true ↔ badB (bt s (i : Int)) = true) → lex_quoted.j1 (k + 1) s (i : Int) (bt s (i : Int)) bad = some (pos i (if badB (bt s (i : Int)) = true then none else if bt s (i : Int) = 34 then some 1 else if bt s (i : Int) = 92 then (match (bytesOf s).drop (i + 1) with
          | [] => none
          | y :: r' => if badB y = true then none else (qt r').map (· + 2)) else (qt ((bytesOf s).drop (i + 1))).map (· + 1))) := by
        intro bad hbad
        rw [lex_quoted.j1]
        by_cases cb : badB (bt s (i : Int)) = true
        · rw [if_pos cb, if_pos (hbad.2 cb)]; rfl
        · rw [if_neg cb, if_neg (fun h => cb (hbad.1 h))]
          by_cases c1 : bt s (i : Int) = 34
          · rw [if_pos c1, if_pos c1, w64i _ (by omega) (by omega)]; rfl
          · rw [if_neg c1, if_neg c1, w64i ((i : Int) + 1) (by omega) (by omega)]
            by_cases c2 : bt s (i : Int) = 92
            · rw [if_pos c2, if_pos c2, w64i ((i : Int) + 1 + 1) (by omega) (by omega), show ((i : Int) + 1 + 1) = ((i + 2 : Nat) : Int) by omega, show ((i : Int) + 1) = ((i + 1 : Nat) : Int) by omega]
              rcases Nat.lt_or_ge (i + 1) s.size with q | q
              · rw [if_pos (by omega), if_pos (by omega), drop_bt s (i + 1) q]
                simp only
                by_cases c3 : badB (bt s ((i + 1 : Nat) : Int)) = true
                · rw [if_pos c3]
                  by_cases c4 : bt s ((i + 1 : Nat) : Int) < 32
                  · rw [if_pos c4]; rfl
                  · rw [if_neg c4, if_pos (((bad_iff _).1 c3).resolve_left c4)]; rfl
                · rw [if_neg c3, if_neg (fun h => c3 ((bad_iff _).2 (.inl h))), if_neg (fun h => c3 ((bad_iff _).2 (.inr h)))]
                  rw [ih (m - 2) (by omega) (i + 2) k (by omega) (by omega) (by omega)]
                  cases qt ((bytesOf s).drop (i + 1 + 1)) with
                  | none => rfl
                  | some n => simp only [pos, Option.map_some]; congr 1; omega
              · rw [if_neg (by omega), drop_end s (i + 1) q]
                simp only
                rw [show k = (k - 2) + 1 + 1 by omega, lex_quoted.l0, if_neg (by omega)]
                rfl
            · rw [if_neg c2, if_neg c2, show ((i : Int) + 1) = ((i + 1 : Nat) : Int) by omega, ih (m - 1) (by omega) (i + 1) k (by omega) (by omega) (by omega)]
              cases qt ((bytesOf s).drop (i + 1)) with
              | none => rfl
              | some n => simp only [pos, Option.map_some]; congr 1; omega
      by_cases c0 : bt s (i : Int) < 32
      · rw [if_pos c0]
        exact j1 true ⟨fun _ => (bad_iff _).2 (.inl c0), fun _ => rfl⟩
      · rw [if_neg c0]
        exact j1 _ ⟨fun h => (bad_iff _).2 (.inr (beq_iff_eq.1 h)), fun h => beq_iff_eq.2 (((bad_iff _).1 h).resolve_left c0)⟩
    · rw [if_neg (by omega), drop_end s i (by omega)]
      rfl
theorem quoted_f (s : ByteArray) (hs : s.size ≤ 100000) (i k : Nat) (hi : i < s.size) (hk : 2 * s.size + 2 ≤ k) : lex_quoted.f k s (i : Int) = some (pos (i + 1) (qt ((bytesOf s).drop (i + 1)))) := by
  unfold lex_quoted.f
  rw [w64i _ (by omega) (by omega), show ((i : Int) + 1) = ((i + 1 : Nat) : Int) by omega]
  exact quoted_l0 s hs (s.size - (i + 1)) (i + 1) k (by omega) (by omega) (by omega)
theorem atoms_l0 (s : ByteArray) (hs : s.size ≤ 100000) (i : Nat) (z0 z1 : Int) (z2 : ByteArray) : ∀ (m e k : Nat), s.size ≤ e + m → i ≤ e → e ≤ s.size → m < k →
    lex_token.l0 k s (i : Int) (e : Int) z0 z1 z2 = some (if e + (((bytesOf s).drop e).takeWhile atomB).length = i then (z0, z1, z2, (-1 : Int)) else (4, z1, s.extract i (e + (((bytesOf s).drop e).takeWhile atomB).length), ((e + (((bytesOf s).drop e).takeWhile atomB).length : Nat) : Int))) := by
  intro m
  induction m with
  | zero =>
    intro e k h1 h2 h3 h4
    obtain ⟨k, rfl⟩ : ∃ j, k = j + 1 := ⟨k - 1, by omega⟩
    have hM : (((bytesOf s).drop e).takeWhile atomB).length = 0 := by rw [drop_end s e (by omega)]; rfl
    rw [lex_token.l0, if_neg (by omega), hM, Nat.add_zero]
    by_cases c : e = i
    · rw [if_pos (by omega), if_pos c]
    · rw [if_neg (by omega), if_neg c, if_pos (by omega), if_pos (by omega), if_pos (by omega)]
      rfl
  | succ m ih =>
    intro e k h1 h2 h3 h4
    obtain ⟨k, rfl⟩ : ∃ j, k = j + 1 := ⟨k - 1, by omega⟩
    rw [lex_token.l0]
    by_cases hlt : e < s.size
    · have hr := bt_range s (e : Int)
      have ha := atom_i (bt s (e : Int)) hr.1 (by omega)
      rw [if_pos (by omega), if_pos (by omega)]
      unfold strings_IndexByte.f
      rw [Option.bind_some, drop_bt s e hlt, List.takeWhile_cons]
      by_cases c : atomB (bt s (e : Int)) = true
      · rw [if_pos (show Lib.indexByte _ _ ≥ 0 from ha.2 c), if_pos c, w64i _ (by omega) (by omega), show ((e : Int) + 1) = ((e + 1 : Nat) : Int) by omega, ih (e + 1) k (by omega) (by omega) (by omega) (by omega)]
        simp only [List.length_cons]
        rw [show e + 1 + (((bytesOf s).drop (e + 1)).takeWhile atomB).length = e + ((((bytesOf s).drop (e + 1)).takeWhile atomB).length + 1) by omega]
      · rw [if_neg (show ¬ Lib.indexByte _ _ ≥ 0 from fun h => c (ha.1 h)), if_neg c]
        simp only [List.length_nil, Nat.add_zero]
        by_cases c2 : e = i
        · rw [if_pos (by omega), if_pos c2]
        · rw [if_neg (by omega), if_neg c2, if_pos (by omega), if_pos (by omega), if_pos (by omega)]
          rfl
    · have hM : (((bytesOf s).drop e).takeWhile atomB).length = 0 := by rw [drop_end s e (by omega)]; rfl
      rw [if_neg (by omega), hM, Nat.add_zero]
      by_cases c : e = i
      · rw [if_pos (by omega), if_pos c]
      · rw [if_neg (by omega), if_neg c, if_pos (by omega), if_pos (by omega), if_pos (by omega)]
        rfl
def tokV (i : Nat) : Option (Int × List Int × Nat) → Int × Int × ByteArray × Int
  | none => (0, (i : Int), ⟨#[]⟩, -1)
  | some (k, t, n) => (k, (i : Int), strOfNums t, ((i + n : Nat) : Int))
theorem token_f (s : ByteArray) (hs : s.size ≤ 100000) (i k : Nat) (hi : i < s.size) (hk : 2 * s.size + 2 ≤ k) : lex_token.f k s (i : Int) = some (tokV i (tokN ((bytesOf s).drop i))) := by
  unfold lex_token.f
  rw [if_pos (by omega), if_pos (by omega), quoted_f s hs i k hi hk, w64i ((i : Int) + 1) (by omega) (by omega)]
  have ha := atoms_l0 s hs i 0 (i : Int) ⟨#[]⟩ (s.size - i) i k (by omega) (Nat.le_refl _) (by omega) (by omega)
  rw [ha]
  rw [drop_bt s i hi, tokN]
  by_cases c1 : bt s (i : Int) = 40
  · rw [if_pos c1, if_pos c1]; rfl
  · rw [if_neg c1, if_neg c1]
    by_cases c2 : bt s (i : Int) = 41
    · rw [if_pos c2, if_pos c2]; rfl
    · rw [if_neg c2, if_neg c2]
      by_cases c3 : bt s (i : Int) = 34
      · rw [if_pos c3, if_pos c3, Option.bind_some]
        cases hq : qt ((bytesOf s).drop (i + 1)) with
        | none => rfl
        | some n =>
          have hp := qt_pos _ _ hq
          rw [List.length_drop, bytesOf_length] at hp
          simp only [pos, Option.map_some, tokV]
          have hw := w64i (((i + 1 + n : Nat) : Int) - 1) (by omega) (by omega)
          simp only [hw]
          rw [if_pos (by omega), if_pos (by omega), if_pos (by omega), if_pos (by omega), ext_str]
          rw [show (((i + 1 + n : Nat) : Int) - 1).toNat - ((i : Int) + 1).toNat = n - 1 by omega, show ((i : Int) + 1).toNat = i + 1 by omega, show i + (n + 1) = i + 1 + n by omega]
      · rw [if_neg c3, if_neg c3]
        by_cases c4 : atomB (bt s (i : Int)) = true
        · have hpos : 0 < ((bt s (i : Int) :: (bytesOf s).drop (i + 1)).takeWhile atomB).length := by rw [List.takeWhile_cons, if_pos c4]; simp
          rw [if_pos c4, if_neg (by omega)]
          simp only [tokV]
          rw [ext_str, drop_bt s i hi, show ∀ q : Nat, i + q - i = q by intro q; omega]
          rw [take_tw]
        · rw [if_neg c4, List.takeWhile_cons, if_neg c4]
          simp only [List.length_nil, Nat.add_zero, if_true]
          rfl
end Go.Proofs.YtaidpcmndmjceaaDoor.Lx
