/- strings.IndexByte, text.digit, text.digits by contracts in the printed texts' form. -/
import Derived.Test.YtjenbegobpfclaaDoorShelf
import Derived.Shelf.Spec.BitsCarry
import Derived.Test.YtjenbegobpfclaaDoorWMore
import Derived.WalkKit
import Derived.KernelRfl
import Derived.Deep.LoopGhost
import Derived.Deep.Draws
import Derived.BigQuiet
set_option linter.unusedVariables false
set_option linter.unusedSimpArgs false
namespace Go.Proofs.YtjenbegobpfclaaDoor.Man
open Go.RowKit Go.Proofs.YtjenbegobpfclaaDoorW.PrintWords
def strings_IndexByte.f (a0 : ByteArray) (a1 : Int) : Option Int := some (Lib.indexByte a0.data.toList a1.toNat.toUInt8)
theorem strings_IndexByte.calls (a0 : ByteArray) (a1 : Int) (r : Int) (w : World) (h : strings_IndexByte.f a0 a1 = some r) :
    Calls Tryd.prog 37 #[.string a0, .int .u8 a1] w fun e w' => e = .returned (.int .i64 r) ∧ Drawn0 w w' := by
  obtain rfl := Option.some.inj h
  exact (Go.Proofs.Tryd.strings_IndexByte a0 a1 w).mono fun e w' ⟨he, hw⟩ => ⟨he, by subst hw; exact Drawn0.refl _⟩
/-- A digit's number; -1: it is none. -/
def dg (x b : Int) : Int := if 48 ≤ x ∧ x ≤ 57 then x - 48 else if b = 16 ∧ 97 ≤ x ∧ x ≤ 102 then x - 87 else if b = 16 ∧ 65 ≤ x ∧ x ≤ 70 then x - 55 else -1
theorem dg_range (x b : Int) : -1 ≤ dg x b ∧ dg x b ≤ 15 := by
  unfold dg
  split
  · omega
  · split
    · omega
    · split <;> omega
def low (x : Int) : Int := if 65 ≤ x ∧ x ≤ 70 then x + 32 else x
theorem dg10 : ∀ x : Fin 256, Lib.indexByte [48, 49, 50, 51, 52, 53, 54, 55, 56, 57] (low (x.val : Int)).toNat.toUInt8 = dg (x.val : Int) 10 := by decide +kernel
theorem dg16 : ∀ x : Fin 256, Lib.indexByte [48, 49, 50, 51, 52, 53, 54, 55, 56, 57, 97, 98, 99, 100, 101, 102] (low (x.val : Int)).toNat.toUInt8 = dg (x.val : Int) 16 := by decide +kernel
def text_digit.f (a0 a1 : Int) : Option Int := if (0 ≤ a0 ∧ a0 < 256) ∧ (a1 = 10 ∨ a1 = 16) then some (dg a0 a1) else none
set_option maxHeartbeats 1000000 in
theorem text_digit.calls (a0 a1 r : Int) (w : World) (h : text_digit.f a0 a1 = some r) :
    Calls Tryd.prog 18 #[.int .u8 a0, .int .u64 a1] w fun e w' => e = .returned (.int .i64 r) ∧ Drawn0 w w' := by
  unfold text_digit.f at h
  split at h
  · rename_i hc
    obtain ⟨⟨h0, h1⟩, h2⟩ := hc
    obtain rfl := Option.some.inj h
    clear h
    have hd : ∀ l : ByteArray, (a1 = 10 → l = ⟨#[48, 49, 50, 51, 52, 53, 54, 55, 56, 57]⟩) → (a1 = 16 → l = ⟨#[48, 49, 50, 51, 52, 53, 54, 55, 56, 57, 97, 98, 99, 100, 101, 102]⟩) → Lib.indexByte l.data.toList (low a0).toNat.toUInt8 = dg a0 a1 := by
      intro l e1 e2
      have ea : (((⟨a0.toNat, by omega⟩ : Fin 256).val : Nat) : Int) = a0 := by simp; omega
      rcases h2 with rfl | rfl
      · rw [e1 rfl]; have := dg10 ⟨a0.toNat, by omega⟩; rw [ea] at this; exact this
      · rw [e2 rfl]; have := dg16 ⟨a0.toNat, by omega⟩; rw [ea] at this; exact this
    by_cases hb : 65 ≤ a0 ∧ a0 ≤ 70
    · have hl : low a0 = a0 + 32 := by unfold low; rw [if_pos hb]
      have hw : (a0 + 32) % 256 = a0 + 32 := by omega
      rw [hl] at hd
      obtain ⟨b1, b2⟩ := hb
      rcases h2 with rfl | rfl
      · have HI := Aside0.mk (fun W5 : World => strings_IndexByte.calls ⟨#[48, 49, 50, 51, 52, 53, 54, 55, 56, 57]⟩ (a0 + 32) _ W5 (congrArg some (hd ⟨#[48, 49, 50, 51, 52, 53, 54, 55, 56, 57]⟩ (fun _ => rfl) (fun h => absurd h (by decide)))))
        clear hd hl
        go_enter Tryd.func18, Tryd.ntmps18
        go_wp2_with (go_at_call 37; (refine (HI.out _).mono ?_); rintro e w' ⟨rfl, hD⟩; have HD := Aside0.mk hD; clear hD)
        go_ret
        exact ⟨rfl, HD.out⟩
      · have HI := Aside0.mk (fun W5 : World => strings_IndexByte.calls ⟨#[48, 49, 50, 51, 52, 53, 54, 55, 56, 57, 97, 98, 99, 100, 101, 102]⟩ (a0 + 32) _ W5 (congrArg some (hd ⟨#[48, 49, 50, 51, 52, 53, 54, 55, 56, 57, 97, 98, 99, 100, 101, 102]⟩ (fun h => absurd h (by decide)) (fun _ => rfl))))
        clear hd hl
        go_enter Tryd.func18, Tryd.ntmps18
        go_wp2_with (go_at_call 37; (refine (HI.out _).mono ?_); rintro e w' ⟨rfl, hD⟩; have HD := Aside0.mk hD; clear hD)
        go_ret
        exact ⟨rfl, HD.out⟩
    · have hl : low a0 = a0 := by unfold low; rw [if_neg hb]
      rw [hl] at hd
      have hb' : a0 < 65 ∨ 70 < a0 := by omega
      have C := Aside0.mk (show (decide (65 ≤ a0) && decide (a0 ≤ 70)) = false by rcases hb' with h | h <;> simp <;> omega)
      rcases h2 with rfl | rfl
      · have HI := Aside0.mk (fun W5 : World => strings_IndexByte.calls ⟨#[48, 49, 50, 51, 52, 53, 54, 55, 56, 57]⟩ a0 _ W5 (congrArg some (hd ⟨#[48, 49, 50, 51, 52, 53, 54, 55, 56, 57]⟩ (fun _ => rfl) (fun h => absurd h (by decide)))))
        clear hd hl hb
        rcases hb' with b1 | b1
        · have b2 : ¬ 65 ≤ a0 := by omega
          go_enter Tryd.func18, Tryd.ntmps18
          go_wp2_with (go_at_call 37; (refine (HI.out _).mono ?_); rintro e w' ⟨rfl, hD⟩; have HD := Aside0.mk hD; clear hD)
          go_ret
          exact ⟨rfl, HD.out⟩
        · have b2 : 65 ≤ a0 := by omega
          have b3 : ¬ a0 ≤ 70 := by omega
          go_enter Tryd.func18, Tryd.ntmps18
          go_wp2_with (go_at_call 37; (refine (HI.out _).mono ?_); rintro e w' ⟨rfl, hD⟩; have HD := Aside0.mk hD; clear hD)
          go_ret
          exact ⟨rfl, HD.out⟩
      · have HI := Aside0.mk (fun W5 : World => strings_IndexByte.calls ⟨#[48, 49, 50, 51, 52, 53, 54, 55, 56, 57, 97, 98, 99, 100, 101, 102]⟩ a0 _ W5 (congrArg some (hd ⟨#[48, 49, 50, 51, 52, 53, 54, 55, 56, 57, 97, 98, 99, 100, 101, 102]⟩ (fun h => absurd h (by decide)) (fun _ => rfl))))
        clear hd hl hb
        rcases hb' with b1 | b1
        · have b2 : ¬ 65 ≤ a0 := by omega
          go_enter Tryd.func18, Tryd.ntmps18
          go_wp2_with (go_at_call 37; (refine (HI.out _).mono ?_); rintro e w' ⟨rfl, hD⟩; have HD := Aside0.mk hD; clear hD)
          go_ret
          exact ⟨rfl, HD.out⟩
        · have b2 : 65 ≤ a0 := by omega
          have b3 : ¬ a0 ≤ 70 := by omega
          go_enter Tryd.func18, Tryd.ntmps18
          go_wp2_with (go_at_call 37; (refine (HI.out _).mono ?_); rintro e w' ⟨rfl, hD⟩; have HD := Aside0.mk hD; clear hD)
          go_ret
          exact ⟨rfl, HD.out⟩
  · cases h
end Go.Proofs.YtjenbegobpfclaaDoor.Man
