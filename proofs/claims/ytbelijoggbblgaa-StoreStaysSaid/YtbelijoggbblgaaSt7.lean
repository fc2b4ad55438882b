import Derived.Test.YtbelijoggbblgaaSt6
import Derived.Deep.CutRange
import Derived.Deep.DeepCutAuto
import Derived.Deep.CutBlock
namespace Go.Proofs.Ytbelijoggbblgaa.St
open Go.RowKit Go.Proofs.YtbelijoggbblgaaW.PrintWords Go.Proofs.YtbelijoggbblgaaW.PrintLast Go.Proofs.YtbelijoggbblgaaW.PrintMore Go.Proofs.Ytbelijoggbblgaa.PStorePlays
set_option linter.unusedVariables false
set_option linter.unusedSimpArgs false
theorem ints_l0 (xs : List Int) (hx : xs.length ≤ 1000) : ∀ (d : Nat) (i : Nat), xs.length - i = d → i ≤ xs.length → ∀ k, d < k → grommetref05_Ints.l0 k xs xs (i : Int) = some true
  | 0, i, hd, hi, k, hk => by
    obtain ⟨k, rfl⟩ : ∃ m, k = m + 1 := ⟨k - 1, by omega⟩
    rw [grommetref05_Ints.l0]
    rw [if_neg (by omega)]
  | d + 1, i, hd, hi, k, hk => by
    obtain ⟨k, rfl⟩ : ∃ m, k = m + 1 := ⟨k - 1, by omega⟩
    rw [grommetref05_Ints.l0]
    rw [if_pos (show (i : Int) < (xs.length : Int) by omega), if_pos (show (0 : Int) ≤ (i : Int) by omega), if_pos (show (i : Int) < (xs.length : Int) by omega), if_pos rfl]
    have e : wrap64 ((i : Int) + 1) = ((i + 1 : Nat) : Int) := by unfold wrap64; omega
    rw [e]
    exact ints_l0 xs hx d (i + 1) (by omega) (by omega) k (by omega)
theorem ints_f (xs : List Int) (hx : xs.length ≤ 1000) : grommetref05_Ints.f (xs.length + 1) xs xs = some true := by
  unfold grommetref05_Ints.f
  rw [if_pos rfl]
  exact ints_l0 xs hx xs.length 0 (by omega) (by omega) _ (by omega)
/-- Two rows that read the same. -/
theorem ints_calls {w : World} {A B : Option Addr} {c d : Nat} (xs : List Int) (hx : xs.length ≤ 1000) (h : I64.C w A xs.length xs) (hc : xs.length ≤ c) (k : I64.C w B xs.length xs) (hd : xs.length ≤ d) :
    Calls Try.prog 14 #[.slice A xs.length c, .slice B xs.length d] w fun e w' => e = .returned (.bool true) ∧ Drawn0 w w' :=
  grommetref05_Ints.calls _ A c xs B d xs true w h hc k hd (ints_f xs hx)
theorem pick_f (c : Int) (c0 : -9223372036854775808 ≤ c) (c1 : c < 9223372036854775808) (m : Int) (hm : 0 < m) (hm2 : m ≤ 100) : ∃ r, grommetlaw16_pick.f c m = some r := by
  unfold grommetlaw16_pick.f
  by_cases h : c < 0
  · rw [if_pos h, if_neg (by omega)]; exact ⟨_, rfl⟩
  · rw [if_neg h, if_neg (by omega)]; exact ⟨_, rfl⟩
theorem pick_calls (c : Int) (c0 : -9223372036854775808 ≤ c) (c1 : c < 9223372036854775808) (m : Int) (hm : 0 < m) (hm2 : m ≤ 100) (r : Int) (hr : grommetlaw16_pick.f c m = some r) (w : World) : Calls Try.prog 10 #[.int .i64 c, .int .i64 m] w fun e w' => e = .returned (.int .i64 r) ∧ Drawn0 w w' :=
  grommetlaw16_pick.calls c m r w hr
/-- One deed of a script, as it lies in memory. -/
structure Deed (W : World) (a : Addr) (what n1 at_ inst fn ans lo hi ty v : Int) (has mu : Bool) (P R : Option Addr) (cp cr : Nat) (ps rs : List Int) : Prop where
  w0 : -9223372036854775808 ≤ what
  w1 : what < 9223372036854775808
  lt : a.block < W.heap.size
  d0 : W.cell? a = some (.int .i64 what)
  d1 : W.cell? ⟨a.block, a.off + 1, none⟩ = some (.int .i64 n1)
  d2 : W.cell? ⟨a.block, a.off + 2, none⟩ = some (.int .i64 at_)
  d3 : W.cell? ⟨a.block, a.off + 3, none⟩ = some (.slice P ps.length cp)
  d4 : W.cell? ⟨a.block, a.off + 4, none⟩ = some (.slice R rs.length cr)
  d5 : W.cell? ⟨a.block, a.off + 5, none⟩ = some (.int .i64 inst)
  d6 : W.cell? ⟨a.block, a.off + 6, none⟩ = some (.int .i64 fn)
  d7 : W.cell? ⟨a.block, a.off + 7, none⟩ = some (.int .u64 ans)
  d8 : W.cell? ⟨a.block, a.off + 8, none⟩ = some (.int .i64 lo)
  d9 : W.cell? ⟨a.block, a.off + 9, none⟩ = some (.int .i64 hi)
  d10 : W.cell? ⟨a.block, a.off + 10, none⟩ = some (.bool has)
  d11 : W.cell? ⟨a.block, a.off + 11, none⟩ = some (.int .i64 ty)
  d12 : W.cell? ⟨a.block, a.off + 12, none⟩ = some (.bool mu)
  d13 : W.cell? ⟨a.block, a.off + 13, none⟩ = some (.int .u64 v)
  cP : I64.C W P ps.length ps
  lP : ps.length ≤ cp
  kP : ps.length * 8 ≤ 140737488351232
  cR : I64.C W R rs.length rs
  lR : rs.length ≤ cr
  kR : rs.length * 8 ≤ 140737488351232
def Script (W : World) (S : Option Addr) (ns : Nat) : Prop :=
  ∀ i, i < ns → ∃ ad, S = some ad ∧ ∃ what n1 at_ inst fn ans lo hi ty v has mu P R cp cr ps rs, Deed W (ad.add (i * 14)) what n1 at_ inst fn ans lo hi ty v has mu P R cp cr ps rs
theorem src_news {w : World} {A : Option Addr} {xs : List Int} (h : I64.C w A xs.length xs) (ad : Addr) (hA : A = some ad) : ∀ j u, (nums .i64 xs)[j]? = some u → w.cell? (ad.add j) = some u := by
  intro j u hj
  rw [List.getElem?_eq_some_iff] at hj
  obtain ⟨hl, hu⟩ := hj
  have hl2 : j < xs.length := by rw [nums_length] at hl; exact hl
  obtain ⟨ad', e, hcell⟩ := (Kd.reads_of_C (d := (0 : Int)) (h1 := fun _ => rfl) h).2.2 (Nat.lt_of_le_of_lt (Nat.zero_le _) hl2)
  rw [hA] at e
  obtain rfl := Option.some.inj e
  have := hcell j hl2
  rw [← hu]
  simpa [nums, List.getD, hl2] using this
end Go.Proofs.Ytbelijoggbblgaa.St
