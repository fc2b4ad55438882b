/- strings.ContainsAny of any string and three letters of ASCII, by a contract in the printed texts' form. -/
import Derived.Test.YtjenbegobpfclaaDoorMn3
set_option linter.unusedVariables false
set_option linter.unusedSimpArgs false
namespace Go.Proofs.YtjenbegobpfclaaDoor.Man
open Go.RowKit Go.Shelf Go.Proofs.YtjenbegobpfclaaDoorW.PrintWords
theorem next_at (wx : World) (k : Nat) (s : ByteArray) (pos : Nat) (ty : TypeId) (h : wx.heap[k]? = some (.stringIter s pos)) (hp : pos < s.size) :
    (Instr.next (.pointer (some ⟨k, 0, none⟩)) true ty).run Tryd.prog wx = .ok (.tuple #[.bool true, .int .i64 pos, .int .i32 (Utf8.decode s pos).1]) { wx with heap := wx.heap.setIfInBounds k (.stringIter s (pos + (Utf8.decode s pos).2)) } := by
  simp only [Instr.next, getObj, setObj, Sem.run_bind, Sem.run, h, Result.andThen, hp, if_true]
  simp [goInt]
theorem next_over (wx : World) (k : Nat) (s : ByteArray) (pos : Nat) (ty : TypeId) (h : wx.heap[k]? = some (.stringIter s pos)) (hp : ¬ pos < s.size) :
    (Instr.next (.pointer (some ⟨k, 0, none⟩)) true ty).run Tryd.prog wx = .ok (.tuple #[.bool false]) wx := by
  simp [Instr.next, getObj, Sem.run, h, hp]
theorem set_below {w wx : World} {k : Nat} {o : Obj} (h : Below w.heap.size w wx) (hk : w.heap.size ≤ k) : Below w.heap.size w { wx with heap := wx.heap.setIfInBounds k o } :=
  ⟨h.os, h.tape, h.output, by simpa using h.size, fun j hj => by
    rw [← h.block j hj]
    show (wx.heap.setIfInBounds k o)[j]? = wx.heap[j]?
    rw [Array.getElem?_setIfInBounds_ne (by omega)]⟩
theorem set_at {wx : World} {k : Nat} {o o' : Obj} (h : wx.heap[k]? = some o) : ({ wx with heap := wx.heap.setIfInBounds k o' } : World).heap[k]? = some o' := by
  have hk := (Array.getElem?_eq_some_iff.1 h).1
  show (wx.heap.setIfInBounds k o')[k]? = some o'
  rw [Array.getElem?_setIfInBounds_self_of_lt hk]
set_option maxRecDepth 100000 in
set_option maxHeartbeats 2000000 in
theorem any_short (s ch : ByteArray) (h8 : s.size ≤ 8) (h3 : ch.size = 3) (ha : ∀ (i : Nat) (h : i < ch.size), (ch[i]'h).toNat < 128) (w : World) :
    Calls Tryd.prog 42 #[.string s, .string ch] w fun e w' => e = .returned (.int .i64 (Lib.indexAny s.data.toList ch.data.toList)) ∧ Below w.heap.size w w' := by
  have HA := Aside0.mk ha
  have H3 := Aside0.mk h3
  have H8 := Aside0.mk h8
  have hemp : (ch.toList.isEmpty) = false := by
    rw [Lib.toList_data]
    cases h : ch.data.toList with
    | nil => have := Lib.size_eq ch; rw [h, List.length_nil] at this; omega
    | cons _ _ => rfl
  have hn1 : ((ch.size : Int) == 1) = false := beq_eq_false_iff_ne.2 (by omega)
  have h8z : decide ((8 : Int) < (s.size : Int)) = false := decide_eq_false (by omega)
  have hchars : ∀ x : UInt8, 128 ≤ x.toNat → ch.data.toList.contains x = false := by
    intro x hx
    cases hc : ch.data.toList.contains x with
    | false => rfl
    | true =>
      rw [List.contains_iff_mem, List.mem_iff_getElem] at hc
      obtain ⟨j, hj, e⟩ := hc
      have h1 := ha j hj
      have e2 : ch[j]'hj = ch.data.toList[j]'hj := rfl
      rw [e2, e] at h1
      omega
  have HC := Aside0.mk hchars
  clear ha h3 h8 hchars
  go_enter Tryd.func42, Tryd.ntmps42
  go_wp2_with (go_at_call 47; (refine (Go.Proofs.Tryd.strings_shouldUseASCIISet _ _).mono ?_); rintro e w' ⟨rfl, hw⟩; rw [hw, h8z])
  go_loopg [9, 10] s.size (fun g _ _ wx => ∃ i : Nat, i ≤ s.size ∧ s.size ≤ i + g ∧ Aside0 (wx.heap[w.heap.size]? = some (.stringIter s i)) ∧ Aside0 (Below w.heap.size w wx) ∧ Aside0 (Lib.NoAny s.data.toList ch.data.toList i))
  case atStart => exact ⟨0, by omega, by omega, ⟨World.iter_heap w s 0⟩, ⟨below_alloc (Below.refl _ _) _⟩, ⟨Lib.NoAny.zero _ _⟩⟩
  case round =>
    obtain ⟨i, hi1, hi2, HI, HB, HN⟩ := hrel
    by_cases hlt : i < s.size
    · obtain ⟨x, hx⟩ : ∃ x : UInt8, s[i]'hlt = x := ⟨_, rfl⟩
      have hxl : s.data.toList[i]? = some x := by rw [← hx]; exact Lib.data_getElem? s i hlt
      obtain ⟨g, rfl⟩ : ∃ g', gk = g' + 1 := ⟨gk - 1, by omega⟩
      by_cases hx128 : x.toNat < 128
      · have hd := decode_ascii s i hlt (by rw [hx]; exact hx128)
        rw [hx] at hd
        obtain ⟨w2, hw2⟩ : ∃ w2, w2 = ({ wr with heap := wr.heap.setIfInBounds w.heap.size (.stringIter s (i + (Utf8.decode s i).2)) } : World) := ⟨_, rfl⟩
        have hnx := fun ty => next_at wr w.heap.size s i ty HI.out hlt
        rw [← hw2] at hnx
        simp only [hd] at hnx hw2
        have HI2 := Aside0.mk (show w2.heap[w.heap.size]? = some (.stringIter s (i + 1)) by rw [hw2]; exact set_at HI.out)
        have HB2 := Aside0.mk (show Below w.heap.size w w2 by rw [hw2]; exact set_below HB.out (Nat.le_refl _))
        have Hx := Aside0.mk hxl
        have hcon := Lib.contains_iff_indexByte ch.data.toList x
        have hback : ((x.toNat : Int)).toNat.toUInt8 = x := by simp
        have CR := Aside0.mk (fun W5 : World => (show Calls Tryd.prog 46 #[.string ch, .int .i32 (x.toNat : Int)] W5 fun e w' => e = .returned (.int .i64 (Lib.indexByte ch.data.toList x)) ∧ w' = W5 by have k := Go.Proofs.Tryd.strings_IndexRune_ascii ch (x.toNat : Int) W5 (by omega) (by omega); rw [hback] at k; exact k))
        clear hxl hx hw2 hd
        cases hin : ch.data.toList.contains x with
        | false =>
          rw [hin] at hcon
          have hlt2 : ¬ ((0 : Int) ≤ Lib.indexByte ch.data.toList x) := of_decide_eq_false hcon.symm
          have HN2 := Aside0.mk (HN.out.succ Hx.out hin)
          clear hcon hin
          go_wp2_with (go_at_call 46; (refine (CR.out _).mono ?_); rintro e w' ⟨rfl, rfl⟩)
          go_roundg g
          case measure => omega
          case rel => exact ⟨i + 1, by omega, by omega, HI2, HB2, HN2⟩
        | true =>
          rw [hin] at hcon
          have hge : (0 : Int) ≤ Lib.indexByte ch.data.toList x := of_decide_eq_true hcon.symm
          have HH := Aside0.mk (Lib.indexAny_hit HN.out Hx.out hin)
          clear hcon hin
          go_wp2_with (go_at_call 46; (refine (CR.out _).mono ?_); rintro e w' ⟨rfl, rfl⟩)
          go_ret
          exact ⟨by rw [HH.out]; rfl, HB2.out⟩
      · obtain ⟨d1, d2, d3, d4, d5, d6, d7⟩ := decode_hi s i hlt (by rw [hx]; omega)
        obtain ⟨w2, hw2⟩ : ∃ w2, w2 = ({ wr with heap := wr.heap.setIfInBounds w.heap.size (.stringIter s (i + (Utf8.decode s i).2)) } : World) := ⟨_, rfl⟩
        have hnx := fun ty => next_at wr w.heap.size s i ty HI.out hlt
        rw [← hw2] at hnx
        obtain ⟨R, hR⟩ : ∃ R, (Utf8.decode s i).1 = R := ⟨_, rfl⟩
        obtain ⟨N, hN⟩ : ∃ N, (Utf8.decode s i).2 = N := ⟨_, rfl⟩
        simp only [hR, hN] at hnx hw2 d1 d2 d3 d4 d5 d6 d7
        have HI2 := Aside0.mk (show w2.heap[w.heap.size]? = some (.stringIter s (i + N)) by rw [hw2]; exact set_at HI.out)
        have HB2 := Aside0.mk (show Below w.heap.size w w2 by rw [hw2]; exact set_below HB.out (Nat.le_refl _))
        have HS2 := Aside0.mk (show w.heap.size < w2.heap.size from (Array.getElem?_eq_some_iff.1 HI2.out).1)
        have HN2 := Aside0.mk (show Lib.NoAny s.data.toList ch.data.toList (i + N) from by
          intro j b hj hb
          by_cases hji : j < i
          · exact HN.out j b hji hb
          · have hj2 := d7 (j - i) (by omega)
            have hjs : j < s.size := by omega
            rw [show i + (j - i) = j by omega, get_bang s j hjs] at hj2
            have e := Lib.data_getElem? s j hjs
            rw [hb] at e
            injection e with e
            exact HC.out b (by rw [e]; exact hj2))
        have CR := Aside0.mk (fun W5 : World => rune_none ch H3.out HA.out (R : Int) (by omega) (by omega) (by omega) W5)
        have QN := Aside0.mk (show i + N ≤ s.size ∧ 1 ≤ N by omega)
        clear hxl hx hw2 hR hN d1 d2 d3 d4 d5 d6 d7
        go_wp2_with (go_at_call 46; (refine (CR.out _).mono ?_); rintro e w3 ⟨rfl, hB3⟩; have HI3 := Aside0.mk ((hB3.block w.heap.size HS2.out).trans HI2.out); have HB3 := Aside0.mk (HB2.out.trans (hB3.mono HB2.out.size)); clear hB3)
        go_roundg g
        case measure => omega
        case rel => exact ⟨i + N, QN.out.1, by have := QN.out.2; omega, HI3, HB3, HN2⟩
    · have hnx := fun ty => next_over wr w.heap.size s i ty HI.out hlt
      have e : i = s.size := by omega
      have HE := Aside0.mk (show Lib.indexAny s.data.toList ch.data.toList = -1 from Lib.indexAny_none (by rw [← Lib.size_eq, ← e]; exact HN.out))
      clear e
      go_wp2
      go_ret
      exact ⟨by rw [HE.out]; rfl, HB.out⟩
def strings_ContainsAny.f (a0 a1 : ByteArray) : Option Bool := if (a1 = ⟨#[46, 112, 80]⟩ ∨ a1 = ⟨#[46, 101, 69]⟩) ∧ a0.size ≤ 1000000 then some (Lib.containsAny a0.data.toList a1.data.toList) else none
theorem hv78 : ∀ w, (zeroValue 97).run Tryd.prog w = .ok (.agg (Array.replicate 256 (.bool false))) w := (zero_of_info (show (Tryd.prog.info? 97).map (fun i => (i.zero, i.size)) = some (some (.agg (Array.replicate 256 (.bool false))), 256) by kernel_rfl)).1
theorem strings_ContainsAny.calls (a0 a1 : ByteArray) (r : Bool) (w : World) (h : strings_ContainsAny.f a0 a1 = some r) :
    Calls Tryd.prog 34 #[.string a0, .string a1] w fun e w' => e = .returned (.bool r) ∧ Below w.heap.size w w' := by
  unfold strings_ContainsAny.f at h
  split at h
  · rename_i hc
    obtain ⟨h2, hsz⟩ := hc
    obtain rfl := Option.some.inj h
    have h3 : a1.size = 3 := by rcases h2 with rfl | rfl <;> rfl
    have ha : ∀ (i : Nat) (h : i < a1.size), (a1[i]'h).toNat < 128 := by
      intro i hi
      have : i = 0 ∨ i = 1 ∨ i = 2 := by omega
      rcases h2 with rfl | rfl
      · rcases this with rfl | rfl | rfl
        · exact (by decide : ((⟨#[46, 112, 80]⟩ : ByteArray)[0]'(by decide)).toNat < 128)
        · exact (by decide : ((⟨#[46, 112, 80]⟩ : ByteArray)[1]'(by decide)).toNat < 128)
        · exact (by decide : ((⟨#[46, 112, 80]⟩ : ByteArray)[2]'(by decide)).toNat < 128)
      · rcases this with rfl | rfl | rfl
        · exact (by decide : ((⟨#[46, 101, 69]⟩ : ByteArray)[0]'(by decide)).toNat < 128)
        · exact (by decide : ((⟨#[46, 101, 69]⟩ : ByteArray)[1]'(by decide)).toNat < 128)
        · exact (by decide : ((⟨#[46, 101, 69]⟩ : ByteArray)[2]'(by decide)).toNat < 128)
    have CA : ∀ W5 : World, Calls Tryd.prog 42 #[.string a0, .string a1] W5 fun e w' => e = .returned (.int .i64 (Lib.indexAny a0.data.toList a1.data.toList)) ∧ Below W5.heap.size W5 w' := by
      intro W5
      by_cases h8 : a0.size ≤ 8
      · exact any_short a0 a1 h8 h3 ha W5
      · refine (Go.Proofs.Tryd.strings_IndexAny_long hv78 a0 a1 W5 (by omega) (by omega) (by omega) (by omega) (fun j b hb => ?_)).mono fun e w' ⟨he, hw⟩ => ⟨he, ?_⟩
        · obtain ⟨hj, e⟩ := List.getElem?_eq_some_iff.1 hb
          have := ha j hj
          have e2 : a1[j]'hj = a1.data.toList[j]'hj := rfl
          rw [e2, e] at this
          exact this
        · rw [hw]; exact below_alloc (below_alloc (Below.refl _ _) _) _
    have HCA := Aside0.mk CA
    clear CA h h2 h3 ha hsz
    go_enter Tryd.func34, Tryd.ntmps34
    go_wp2_with (go_at_call 42; (refine (HCA.out _).mono ?_); rintro e w' ⟨rfl, hB⟩; have HB := Aside0.mk hB; clear hB)
    go_ret
    exact ⟨rfl, HB.out⟩
  · cases h
end Go.Proofs.YtjenbegobpfclaaDoor.Man
