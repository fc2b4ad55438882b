/- Instructions, nested, and a module, opened: with the bounds of all lists inside. -/
import Derived.Test.YtbelijoggbblgaaOp1
namespace Go.Proofs.Ytbelijoggbblgaa.Ex
open Go.RowKit Go.WideShapes Go.ChangeShapes Go.Proofs.YtbelijoggbblgaaW.PrintWords Go.Proofs.YtbelijoggbblgaaW.PrintLast Go.Proofs.Ytbelijoggbblgaa.RStoreExports
set_option linter.unusedVariables false
set_option linter.unusedSimpArgs false
set_option maxRecDepth 20000
section
variable {H : Type} {enc : TypeId × Value → H} {W : World} {spare : Nat → Bool} {held : Bool}
theorem Opens.le {α : Type} {N M : Nat} {k : Kd α} {t : TypeId} {B : α → Prop} (h : Opens enc W spare held N k t B) (hm : M ≤ N) : Opens enc W spare held M k t B := fun f cs x hf hx => h f cs x (Nat.le_trans hf hm) hx
theorem o3 (N : Nat) : Opens enc W spare held N (Kd.int .i64) 3 (fun _ => True) := opens_int Try.underlying3
theorem o30 (N : Nat) : Opens enc W spare held N (Kd.int .u64) 30 (fun _ => True) := opens_int Try.underlying30
theorem o5 (N : Nat) : Opens enc W spare held N (Kd.int .u8) 5 (fun _ => True) := opens_int Try.underlying5
theorem o4 (N : Nat) : Opens enc W spare held N Kd.bool 4 (fun _ => True) := opens_bool Try.underlying4
theorem o9 (N : Nat) : Opens enc W spare held N Kd.string 9 (fun _ => True) := opens_string Try.underlying9
theorem reach (n : Nat) (h : n ≤ reachBytes) : n ≤ 140737488351232 := by unfold reachBytes at h; omega
theorem o23 (N : Nat) : Opens enc W spare held N (Kd.slice 3 (Kd.int .i64)) 23 (fun l => l.length * 8 ≤ 140737488351232) := ((opens_slice 8 Try.underlying23 (by kernel_rfl) (by kernel_rfl) (o3 N)).le (Nat.le_succ N)).imp (fun _ h => reach _ h.1)
theorem o109 (N : Nat) : Opens enc W spare held N (Kd.slice 5 (Kd.int .u8)) 109 (fun l => l.length * 1 ≤ 140737488351232) := ((opens_slice 1 Try.underlying109 (by kernel_rfl) (by kernel_rfl) (o5 N)).le (Nat.le_succ N)).imp (fun _ h => reach _ h.1)
def Bx (N : Nat) (x : S104) : Prop := x.f5.length * 8 ≤ 140737488351232 ∧ Bd N x.f6 ∧ Bd N x.f7
theorem bd_of {N : Nat} {l : List S104} (h : l.length * 120 ≤ reachBytes) (hx : ∀ x ∈ l, Bx N x) : Bd (N + 1) l := ⟨by have := reach _ h; omega, fun x hm => hx x hm⟩
theorem F104_K {w : World} {x : S104} {cs : List Value} (h : (F104 k104).K w x cs) : k104.K w x cs := by
  obtain ⟨_, _, rfl, rfl, ⟨_, _, rfl, rfl, ⟨_, _, rfl, rfl, ⟨_, _, rfl, rfl, ⟨_, _, rfl, rfl, ⟨_, _, rfl, ⟨A5, c5, rfl, l5, g5⟩, ⟨_, _, rfl, ⟨A6, c6, rfl, l6, g6⟩, ⟨_, _, rfl, ⟨A7, c7, rfl, l7, g7⟩, rfl⟩⟩⟩⟩⟩⟩⟩⟩ := h
  exact k104_mk w x l5 g5 l6 g6 l7 g7
theorem o104 : ∀ N : Nat, Opens enc W spare held N k104 104 (Bx N)
  | 0 => fun fuel cs x hf hx => by
    obtain ⟨_, n, rfl, _⟩ := DataW.trod_struct Try.underlying104 hx.1
    omega
  | N + 1 => by
    have h99 : Opens enc W spare held N (Kd.slice 104 k104) 99 (Bd (N + 1)) := ((opens_slice 120 Try.underlying99 (by kernel_rfl) (by kernel_rfl) (o104 N)).le (Nat.le_succ N)).imp (fun _ h => bd_of h.1 h.2)
    have h := opens_struct (enc := enc) (W := W) (spare := spare) (held := held) (fun x : S104 => (x.f0, x.f1, x.f2, x.f3, x.f4, x.f5, x.f6, x.f7, x.f8)) (fun p => ⟨p.1, p.2.1, p.2.2.1, p.2.2.2.1, p.2.2.2.2.1, p.2.2.2.2.2.1, p.2.2.2.2.2.2.1, p.2.2.2.2.2.2.2.1, p.2.2.2.2.2.2.2.2⟩) (fun _ => rfl) [3, 3, 3, 30, 3, 23, 99, 99, 4] Try.underlying104 rfl (by kernel_rfl) (by kernel_rfl)
      (opensF_cons (o3 N) (opensF_cons (o3 N) (opensF_cons (o3 N) (opensF_cons (o30 N) (opensF_cons (o3 N) (opensF_cons (o23 N) (opensF_cons h99 (opensF_cons h99 (opensF_one (o4 N))))))))))
    intro fuel cs x hf hx
    obtain ⟨a, hk, hb⟩ := h fuel cs x hf hx
    exact ⟨a, F104_K hk, hb.2.2.2.2.2.1, hb.2.2.2.2.2.2.1, hb.2.2.2.2.2.2.2.1⟩
theorem o25 (N : Nat) : Opens enc W spare held N k25 25 (fun x => x.f0.length * 8 ≤ 140737488351232 ∧ x.f1.length * 8 ≤ 140737488351232) :=
  (opens_struct (fun x : S25 => (x.f0, x.f1)) (fun p => ⟨p.1, p.2⟩) (fun _ => rfl) [23, 23] Try.underlying25 rfl (by kernel_rfl) (by kernel_rfl) (opensF_cons (o23 N) (opensF_one (o23 N)))).le (Nat.le_succ N)
theorem o38 (N : Nat) : Opens enc W spare held N k38 38 (fun _ => True) :=
  ((opens_struct (fun x : S38 => (x.f0, x.f1, x.f2)) (fun p => ⟨p.1, p.2.1, p.2.2⟩) (fun _ => rfl) [3, 3, 4] Try.underlying38 rfl (by kernel_rfl) (by kernel_rfl) (opensF_cons (o3 N) (opensF_cons (o3 N) (opensF_one (o4 N))))).le (Nat.le_succ N)).imp (fun _ _ => trivial)
theorem o74 (N : Nat) : Opens enc W spare held N k74 74 (fun _ => True) :=
  ((opens_struct (fun x : S74 => (x.f0, x.f1, x.f2)) (fun p => ⟨p.1, p.2.1, p.2.2⟩) (fun _ => rfl) [9, 3, 3] Try.underlying74 rfl (by kernel_rfl) (by kernel_rfl) (opensF_cons (o9 N) (opensF_cons (o3 N) (opensF_one (o3 N))))).le (Nat.le_succ N)).imp (fun _ _ => trivial)
theorem o118 (N : Nat) : Opens enc W spare held N k118 118 (fun _ => True) :=
  ((opens_struct (fun x : S118 => (x.f0, x.f1, x.f2, x.f3, x.f4, x.f5)) (fun p => ⟨p.1, p.2.1, p.2.2.1, p.2.2.2.1, p.2.2.2.2.1, p.2.2.2.2.2⟩) (fun _ => rfl) [9, 9, 3, 3, 4, 38] Try.underlying118 rfl (by kernel_rfl) (by kernel_rfl) (opensF_cons (o9 N) (opensF_cons (o9 N) (opensF_cons (o3 N) (opensF_cons (o3 N) (opensF_cons (o4 N) (opensF_one (o38 N)))))))).le (Nat.le_succ N)).imp (fun _ _ => trivial)
theorem o101 (N : Nat) : Opens enc W spare held N k101 101 (fun x => x.f1.length * 8 ≤ 140737488351232 ∧ Bd (N + 1) x.f2) := by
  have h99 : Opens enc W spare held N (Kd.slice 104 k104) 99 (Bd (N + 1)) := ((opens_slice 120 Try.underlying99 (by kernel_rfl) (by kernel_rfl) (o104 N)).le (Nat.le_succ N)).imp (fun _ h => bd_of h.1 h.2)
  exact ((opens_struct (fun x : S101 => (x.f0, x.f1, x.f2)) (fun p => ⟨p.1, p.2.1, p.2.2⟩) (fun _ => rfl) [3, 23, 99] Try.underlying101 rfl (by kernel_rfl) (by kernel_rfl) (opensF_cons (o3 N) (opensF_cons (o23 N) (opensF_one h99)))).le (Nat.le_succ N)).imp (fun _ h => ⟨h.2.1, h.2.2⟩)
theorem bd_one {N : Nat} {x : S104} (h : Bx N x) : Bd (N + 1) [x] := ⟨by simp, fun y hy => by rw [List.mem_singleton.1 hy]; exact h⟩
theorem o106 (N : Nat) : Opens enc W spare held N k106 106 (fun x => Bd (N + 1) [x.f2]) :=
  ((opens_struct (fun x : S106 => (x.f0, x.f1, x.f2)) (fun p => ⟨p.1, p.2.1, p.2.2⟩) (fun _ => rfl) [3, 4, 104] Try.underlying106 rfl (by kernel_rfl) (by kernel_rfl) (opensF_cons (o3 N) (opensF_cons (o4 N) (opensF_one (o104 N))))).le (Nat.le_succ N)).imp (fun _ h => bd_one h.2.2)
theorem o108 (N : Nat) : Opens enc W spare held N k108 108 (fun x => Bd (N + 1) [x.f0] ∧ x.f1.length * 8 ≤ 140737488351232) :=
  ((opens_struct (fun x : S108 => (x.f0, x.f1)) (fun p => ⟨p.1, p.2⟩) (fun _ => rfl) [104, 23] Try.underlying108 rfl (by kernel_rfl) (by kernel_rfl) (opensF_cons (o104 N) (opensF_one (o23 N)))).le (Nat.le_succ N)).imp (fun _ h => ⟨bd_one h.1, h.2⟩)
theorem o111 (N : Nat) : Opens enc W spare held N k111 111 (fun x => Bd (N + 1) [x.f0] ∧ x.f1.length * 1 ≤ 140737488351232) :=
  ((opens_struct (fun x : S111 => (x.f0, x.f1)) (fun p => ⟨p.1, p.2⟩) (fun _ => rfl) [104, 109] Try.underlying111 rfl (by kernel_rfl) (by kernel_rfl) (opensF_cons (o104 N) (opensF_one (o109 N)))).le (Nat.le_succ N)).imp (fun _ h => ⟨bd_one h.1, h.2⟩)
theorem o121 (N : Nat) : Opens enc W spare held N k121 121 (fun x => x.f1.length * 1 ≤ 140737488351232) :=
  ((opens_struct (fun x : S121 => (x.f0, x.f1)) (fun p => ⟨p.1, p.2⟩) (fun _ => rfl) [9, 109] Try.underlying121 rfl (by kernel_rfl) (by kernel_rfl) (opensF_cons (o9 N) (opensF_one (o109 N)))).le (Nat.le_succ N)).imp (fun _ h => h.2)
theorem oList {α : Type} {N : Nat} {k : Kd α} {t e : TypeId} {B : α → Prop} (bytes : Nat) (ht : Try.prog.underlying t = some (.slice e)) (hsz : Try.prog.cellsOf e = k.sz) (hby : Try.prog.bytesOf e = bytes) (h : Opens enc W spare held N k e B) :
    Opens enc W spare held N (Kd.slice e k) t (fun l => l.length * bytes ≤ 140737488351232 ∧ ∀ a ∈ l, B a) := ((opens_slice bytes ht hsz hby h).le (Nat.le_succ N)).imp (fun _ h => ⟨reach _ h.1, h.2⟩)
/-- A module that is handed in. -/
theorem o61 (N : Nat) : Opens enc W spare held N k61 61 (Bm (N + 1)) :=
  ((opens_struct (fun x : S61 => (x.f0, x.f1, x.f2, x.f3, x.f4, x.f5, x.f6, x.f7, x.f8, x.f9, x.f10)) (fun p => ⟨p.1, p.2.1, p.2.2.1, p.2.2.2.1, p.2.2.2.2.1, p.2.2.2.2.2.1, p.2.2.2.2.2.2.1, p.2.2.2.2.2.2.2.1, p.2.2.2.2.2.2.2.2.1, p.2.2.2.2.2.2.2.2.2.1, p.2.2.2.2.2.2.2.2.2.2⟩) (fun _ => rfl) [51, 52, 53, 54, 54, 55, 56, 3, 57, 58, 59] Try.underlying61 rfl (by kernel_rfl) (by kernel_rfl)
    (opensF_cons (oList 48 Try.underlying51 (by kernel_rfl) (by kernel_rfl) (o25 N)) (opensF_cons (oList 80 Try.underlying52 (by kernel_rfl) (by kernel_rfl) (o118 N)) (opensF_cons (oList 56 Try.underlying53 (by kernel_rfl) (by kernel_rfl) (o101 N)) (opensF_cons (oList 24 Try.underlying54 (by kernel_rfl) (by kernel_rfl) (o38 N)) (opensF_cons (oList 24 Try.underlying54 (by kernel_rfl) (by kernel_rfl) (o38 N))
      (opensF_cons (oList 136 Try.underlying55 (by kernel_rfl) (by kernel_rfl) (o106 N)) (opensF_cons (oList 32 Try.underlying56 (by kernel_rfl) (by kernel_rfl) (o74 N)) (opensF_cons (o3 N) (opensF_cons (oList 144 Try.underlying57 (by kernel_rfl) (by kernel_rfl) (o108 N)) (opensF_cons (oList 144 Try.underlying58 (by kernel_rfl) (by kernel_rfl) (o111 N)) (opensF_one (oList 40 Try.underlying59 (by kernel_rfl) (by kernel_rfl) (o121 N)))))))))))))).le (Nat.le_succ N)).imp
    (fun _ h => ⟨h.1.1, h.1.2, h.2.1.1, h.2.2.1.1, h.2.2.1.2, h.2.2.2.1.1, h.2.2.2.2.1.1, h.2.2.2.2.2.1.1, h.2.2.2.2.2.1.2, h.2.2.2.2.2.2.1.1, h.2.2.2.2.2.2.2.2.1.1, h.2.2.2.2.2.2.2.2.1.2, h.2.2.2.2.2.2.2.2.2.1.1, h.2.2.2.2.2.2.2.2.2.1.2, h.2.2.2.2.2.2.2.2.2.2.1, h.2.2.2.2.2.2.2.2.2.2.2⟩)
end
end Go.Proofs.Ytbelijoggbblgaa.Ex
