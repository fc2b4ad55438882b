/- leb.U at a place, and plain facts on numbers, for sect.Split's walk. -/
import Derived.Test.YtibeoejnfpbcfaaDoorSx1
namespace Go.Proofs.YtibeoejnfpbcfaaDoor.Sx
open Go.RowKit Go.Proofs.YtibeoejnfpbcfaaDoorW.PrintWords Go.Proofs.YtibeoejnfpbcfaaDoorW.PrintLast Go.Proofs.YtibeoejnfpbcfaaDoorW.PrintMore Go.Proofs.YtibeoejnfpbcfaaDoor.RSectSplits Go.Proofs.YtibeoejnfpbcfaaDoor.Leb
set_option linter.unusedVariables false
theorem u_none {l : List Int} (hb : Bytes l) (hl : l.length ≤ 100000) {at_ : Nat} (ha : at_ ≤ l.length) (hu : rdU l at_ = none) {A : Option Addr} {c : Nat} (W : World) (h : U8.C W A l.length l) (hc : l.length ≤ c) :
    Calls Tryd.prog 18 #[.slice A l.length c, .int .i64 (at_ : Int), .int .i64 32] W fun e w' => e = .returned (.tuple #[.int .u64 0, .int .i64 0, .iface 41 (.int .i64 2)]) ∧ Drawn0 W w' := by
  have huf := u_f l hb hl at_ ha
  rw [hu] at huf
  unfold uV at huf
  have k := leb_U.calls 12 A c l (at_ : Int) 32 0 0 (some 2) W h hc huf
  rw [errW_some] at k
  exact k
theorem u_some {l : List Int} (hb : Bytes l) (hl : l.length ≤ 100000) {at_ n nx : Nat} (ha : at_ ≤ l.length) (hu : rdU l at_ = some (n, nx)) {A : Option Addr} {c : Nat} (W : World) (h : U8.C W A l.length l) (hc : l.length ≤ c) :
    Calls Tryd.prog 18 #[.slice A l.length c, .int .i64 (at_ : Int), .int .i64 32] W fun e w' => e = .returned (.tuple #[.int .u64 (n : Int), .int .i64 (nx : Int), .nilIface]) ∧ Drawn0 W w' := by
  have huf := u_f l hb hl at_ ha
  rw [hu] at huf
  unfold uV at huf
  have k := leb_U.calls 12 A c l (at_ : Int) 32 (n : Int) (nx : Int) none W h hc huf
  rw [errW_none] at k
  exact k
theorem wr_next (a : Nat) (h : a ≤ 200000) : wrap64 ((a : Int) + 1) = ((a + 1 : Nat) : Int) := by unfold wrap64; omega
theorem wr_left (a b : Nat) (h : a ≤ 100000) (hb : b ≤ a) : IntKind.u64.wrap (wrap64 ((a : Int) - (b : Int))) = ((a - b : Nat) : Int) := by
  rw [show wrap64 ((a : Int) - (b : Int)) = ((a - b : Nat) : Int) by unfold wrap64; omega, IntKind.wrap_u64]
  omega
theorem wr_n (n : Nat) (h : n < 4294967296) : wrap64 (n : Int) = (n : Int) := by unfold wrap64; omega
theorem wr_n' (n : Nat) (h : n < 4294967296) : IntKind.i64.wrap (n : Int) = (n : Int) := by rw [IntKind.wrap_i64]; omega
theorem wr_to (a b : Nat) (h : a ≤ 100000) (hb : b ≤ 100000) : wrap64 ((a : Int) + (b : Int)) = ((a + b : Nat) : Int) := by unfold wrap64; omega
theorem fits_ {L nx n : Nat} (h : ¬ L - nx < n) (h2 : nx ≤ L) : nx + n ≤ L := by omega
theorem not_less {a b : Nat} (h : ¬ a < b) : decide ((a : Int) < (b : Int)) = false := decide_eq_false (by omega)
theorem is_less {a b : Nat} (h : a < b) : decide ((a : Int) < (b : Int)) = true := decide_eq_true (by omega)
theorem mid_len {l : List Int} {nx n : Nat} (h : nx + n ≤ l.length) (hl : l.length ≤ 100000) : ((l.take (nx + n)).drop nx).length ≤ 100000 := by
  rw [List.length_drop, List.length_take]; omega
theorem tot_ok {L at_ nx n tot : Nat} (u1 : at_ + 1 < nx) (h : nx + n ≤ L) (ht : tot = nx + n) : at_ < tot ∧ tot ≤ L := by omega
/-- The part of bytes that is cloned. -/
theorem mid {l : List Int} {A : Option Addr} {c a b : Nat} (hab : a ≤ b) (hb : b ≤ l.length) (hc : l.length ≤ c) :
    ∃ AM, (∀ W : World, (Instr.slice 22 (.slice A l.length c) (some (.int .i64 (a : Int))) (some (.int .i64 (b : Int))) none).run Tryd.prog W = .ok (.slice AM ((l.take b).drop a).length (c - a)) W) ∧ (∀ w : World, U8.C w A l.length l → U8.C w AM ((l.take b).drop a).length ((l.take b).drop a)) ∧ ((l.take b).drop a).length ≤ c - a := by
  obtain ⟨i5, hi5, _, hsz5, _⟩ := info_parts info5'
  obtain ⟨AM, h1, h2, h3⟩ := print_mid_of (P := Tryd.prog) (Value.int .u8) (0 : Int) 22 5 .i64 .i64 Tryd.underlying22 hi5 hsz5 A c l (a : Int) (b : Int) (by omega) (by omega) (by omega) hc
  simp only [Int.toNat_natCast] at h1 h2 h3
  exact ⟨AM, h1, fun w h => Kd.C_of_reads (h1 := fun _ => rfl) (h2 _ (Kd.reads_of_C h)), h3⟩
end Go.Proofs.YtibeoejnfpbcfaaDoor.Sx
