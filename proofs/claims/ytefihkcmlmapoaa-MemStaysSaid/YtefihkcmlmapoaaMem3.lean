import Derived.Test.YtefihkcmlmapoaaMem2
namespace Go.Proofs.Ytefihkcmlmapoaa.Mem
open Go.RowKit Go.Proofs.YtefihkcmlmapoaaW.PrintWords Go.Proofs.YtefihkcmlmapoaaW.PrintLast Go.Proofs.YtefihkcmlmapoaaW.PrintMore Go.Proofs.Ytefihkcmlmapoaa.PMemHalves
set_option linter.unusedVariables false
set_option linter.unusedSimpArgs false
theorem made_bytes (n : Nat) : madeCells #[.int .u8 0] n = bytes (List.replicate n 0) := by
  apply Array.ext'
  simp [madeCells, bytes, Nat.mod_one, List.map_const']
theorem new_any (w : World) (lo hi : Int) (has : Bool) (h0 : 0 ≤ lo) (h1 : lo ≤ 16) (h2 : has = true → lo ≤ hi ∧ hi ≤ 16) :
    Calls Try.prog 10 #[.agg #[.int .i64 lo, .int .i64 hi, .bool has]] w fun e w' => ∃ g b, e = .returned (.tuple #[.pointer (some ⟨g, 0, none⟩), .nilIface]) ∧ w.heap.size ≤ b ∧
      Row w' b 5 (bytes (List.replicate (lo * 256).toNat 0)) ∧ Row w' g 55 #[.slice (some ⟨b, 0, none⟩) (List.replicate (lo * 256).toNat (0 : Int)).length (List.replicate (lo * 256).toNat (0 : Int)).length, .int .i64 (if has = true then hi else 16)] ∧ Below w.heap.size w w' :=
  (new_calls w lo hi has h0 h1 h2).mono fun e w' ⟨he, hb, hg, hB⟩ => ⟨w.heap.size + 1 + 1, w.heap.size + 1, he, by omega, by rw [← made_bytes]; exact hb, by rw [List.length_replicate]; exact hg, hB⟩
theorem put_range {xs : List Int} (h : ∀ x ∈ xs, 0 ≤ x ∧ x < 256) (a : Nat) (v : Int) : ∀ j, ∀ x ∈ put xs a v j, 0 ≤ x ∧ x < 256
  | 0 => h
  | j + 1 => by
    intro x hx
    rw [put] at hx
    rcases List.mem_or_eq_of_mem_set hx with h1 | rfl
    · exact put_range h a v j x h1
    · omega
theorem rep_range (n : Nat) : ∀ x ∈ List.replicate n (0 : Int), 0 ≤ x ∧ x < 256 := by
  intro x hx
  obtain ⟨_, rfl⟩ := List.mem_replicate.1 hx
  decide
theorem up_load1 (W : World) (g b : Nat) (most : Int) (xs : List Int) (hl : xs.length = 256) (hx : ∀ x ∈ xs, 0 ≤ x ∧ x < 256) (h1 : Row W b 5 (bytes xs)) (h2 : Row W g 55 #[.slice (some ⟨b, 0, none⟩) xs.length xs.length, .int .i64 most]) :
    Calls Try.prog 12 #[.pointer (some ⟨g, 0, none⟩), .int .u64 254, .int .i64 1] W fun e w' => e = .returned (.tuple #[.int .u64 (get xs 254 1), .bool true]) ∧ Drawn0 W w' := by
  have h := load_calls (w := W) (g := g) (b := b) (most := most) hx h1 h2 254 1 (.inl rfl) (by omega) (by omega)
  exact h
theorem up_load2 (W : World) (g b : Nat) (most : Int) (xs : List Int) (hl : xs.length = 256) (h2 : Row W g 55 #[.slice (some ⟨b, 0, none⟩) xs.length xs.length, .int .i64 most]) :
    Calls Try.prog 12 #[.pointer (some ⟨g, 0, none⟩), .int .u64 255, .int .i64 2] W fun e w' => e = .returned (.tuple #[.int .u64 0, .bool false]) ∧ Drawn0 W w' := by
  have h := load_no (w := W) (g := g) (b := b) (most := most) h2 255 2 (by decide) (.inr (.inl rfl)) (by omega) (by omega)
  exact h
theorem up_store (W : World) (base g b : Nat) (most : Int) (xs : List Int) (hl : xs.length = 256) (hbb : base ≤ b) (h1 : Row W b 5 (bytes xs)) (h2 : Row W g 55 #[.slice (some ⟨b, 0, none⟩) xs.length xs.length, .int .i64 most]) :
    Calls Try.prog 11 #[.pointer (some ⟨g, 0, none⟩), .int .u64 254, .int .i64 2, .int .u64 4660] W fun e w' => e = .returned (.bool true) ∧
      Row w' b 5 (bytes (put xs 254 4660 2)) ∧ Row w' g 55 #[.slice (some ⟨b, 0, none⟩) xs.length xs.length, .int .i64 most] ∧ Below base W w' := by
  have h := store_calls (w := W) (base := base) h1 h2 hbb (Nat.zero_le _) 254 2 4660 (.inr (.inl rfl)) (by omega) (by omega)
  exact h
theorem up_new (w : World) : Calls Try.prog 10 #[.agg #[.int .i64 1, .int .i64 0, .bool false]] w fun e w' => ∃ (g b : Nat) (most : Int) (xs : List Int), e = .returned (.tuple #[.pointer (some ⟨g, 0, none⟩), .nilIface]) ∧ w.heap.size ≤ b ∧ xs.length = 256 ∧ (∀ x ∈ xs, 0 ≤ x ∧ x < 256) ∧ xs = List.replicate 256 0 ∧
      Row w' b 5 (bytes xs) ∧ Row w' g 55 #[.slice (some ⟨b, 0, none⟩) xs.length xs.length, .int .i64 most] ∧ Below w.heap.size w w' :=
  (new_any w 1 0 false (by decide) (by decide) (fun h => by cases h)).mono fun e w' ⟨g, b, he, hbb, hb, hg, hB⟩ => ⟨g, b, _, _, he, hbb, List.length_replicate, rep_range _, rfl, hb, hg, hB⟩
end Go.Proofs.Ytefihkcmlmapoaa.Mem
