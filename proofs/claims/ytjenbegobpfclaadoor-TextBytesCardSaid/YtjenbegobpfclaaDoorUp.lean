/- The head of text's statements. -/
import Derived.Test.YtjenbegobpfclaaDoorTx1
set_option linter.unusedVariables false
set_option linter.unusedSimpArgs false
namespace Go.Proofs.YtjenbegobpfclaaDoor.Tx
open Go.RowKit Go.Proofs.YtjenbegobpfclaaDoor.Man Go.Proofs.YtjenbegobpfclaaDoorW.PrintWords Go.Proofs.YtjenbegobpfclaaDoorW.PrintLast Go.Proofs.YtjenbegobpfclaaDoorW.PrintMore Go.Proofs.YtjenbegobpfclaaDoor.RTextBytes
section
open Go
theorem equalIn_err (w : World) (d : Nat) (a b : Int) : (Op.equalIn (d + 2) 25 (.iface 31 (.int .i64 a)) (.iface 31 (.int .i64 b))).run Tryd.prog w = .ok (a == b) w := by
  obtain ⟨ms, hi⟩ : ∃ ms, Tryd.prog.underlying 25 = some (.interface ms) := ⟨Tryd.prog.methodsAt 25, by kernel_rfl⟩
  have hn : Tryd.prog.underlying 31 = some (.int .i64) := by kernel_rfl
  obtain ⟨i, hinfo, hcomp⟩ : ∃ i, Tryd.prog.info? 31 = some i ∧ i.comparable = true := by
    have h : (Tryd.prog.info? 31).map (·.comparable) = some true := by kernel_rfl
    cases hq : Tryd.prog.info? 31 with
    | none => rw [hq] at h; cases h
    | some i => rw [hq] at h; exact ⟨i, rfl, Option.some.inj h⟩
  simp [Op.equalIn, run_underlying hi, run_underlying hn, typeInfo, hinfo, hcomp]
theorem err_eql (w : World) (a b : Int) : (binOp .eql 25 (.iface 31 (.int .i64 a)) (.iface 31 (.int .i64 b))).run Tryd.prog w = .ok (.bool (a == b)) w := by
  simp only [binOp]
  simp [Op.equal, Op.maxDepth, equalIn_err w 9998 a b]
theorem err_neq (w : World) (a b : Int) : (binOp .neq 25 (.iface 31 (.int .i64 a)) (.iface 31 (.int .i64 b))).run Tryd.prog w = .ok (.bool (!(a == b))) w := by
  simp only [binOp]
  simp [Op.equal, Op.maxDepth, equalIn_err w 9998 a b]
theorem err_nil_eql (w : World) (b : Int) : (binOp .eql 25 .nilIface (.iface 31 (.int .i64 b))).run Tryd.prog w = .ok (.bool false) w := by
  obtain ⟨ms, hi⟩ : ∃ ms, Tryd.prog.underlying 25 = some (.interface ms) := ⟨Tryd.prog.methodsAt 25, by kernel_rfl⟩
  have h : ∀ d : Nat, (Op.equalIn (d + 1) 25 .nilIface (.iface 31 (.int .i64 b))).run Tryd.prog w = .ok false w := fun d => by simp [Op.equalIn, run_underlying hi]
  simp only [binOp]
  simp [Op.equal, Op.maxDepth, h 9999]
theorem err_nil_neq (w : World) (b : Int) : (binOp .neq 25 .nilIface (.iface 31 (.int .i64 b))).run Tryd.prog w = .ok (.bool true) w := by
  obtain ⟨ms, hi⟩ : ∃ ms, Tryd.prog.underlying 25 = some (.interface ms) := ⟨Tryd.prog.methodsAt 25, by kernel_rfl⟩
  have h : ∀ d : Nat, (Op.equalIn (d + 1) 25 .nilIface (.iface 31 (.int .i64 b))).run Tryd.prog w = .ok false w := fun d => by simp [Op.equalIn, run_underlying hi]
  simp only [binOp]
  simp [Op.equal, Op.maxDepth, h 9999]
end
attribute [local go_sem] err_eql err_neq err_nil_eql err_nil_neq
theorem up_int1 : text_Int.f 20 ⟨#[45, 48, 120, 56, 48, 48, 48, 95, 48, 48, 48, 48]⟩ 32 = some (2147483648, none) := by kernel_rfl
theorem up_int2 : text_Int.f 20 ⟨#[49, 46, 53]⟩ 32 = some (0, some 3) := by kernel_rfl
theorem up_bys : bysL 13 20 ⟨#[97, 92, 52, 49, 92, 117, 123, 50, 48, 97, 99, 125]⟩ 0 [] = some (.ok [97, 65, 226, 130, 172]) := by kernel_rfl
theorem up_str : strOfNums [97, 65, 226, 130, 172] = ⟨#[97, 65, 226, 130, 172]⟩ := by kernel_rfl
set_option maxHeartbeats 4000000 in
theorem up_calls (w : World) : Calls Tryd.prog 4 #[] w fun e w' => e = .returned (.bool true) ∧ Below w.heap.size w w' := by
  have hu25 := Tryd.underlying25
  have hu28 := Tryd.underlying31
  have C1 := Aside0.mk (fun W5 : World => text_Int.calls _ _ _ _ _ W5 up_int1)
  have C2 := Aside0.mk (fun W5 : World => text_Int.calls _ _ _ _ _ W5 up_int2)
  have C3 := Aside0.mk (fun W5 : World => bytes_calls W5 ⟨#[97, 92, 52, 49, 92, 117, 123, 50, 48, 97, 99, 125]⟩ (by decide) 20 _ up_bys)
  have e1 : errW none = .nilIface := rfl
  have e3 : errW (some 3) = .iface 31 (.int .i64 3) := rfl
  go_enter Tryd.func4, Tryd.ntmps4
  go_upto_region 2 with (go_at_call 8; (refine (C1.out _).mono ?_); rintro e w1 ⟨rfl, hB1⟩; have HB1 := Aside0.mk hB1; clear hB1)
  go_upto_region 3 with (go_at_call 8; (refine (C2.out _).mono ?_); rintro e w2 ⟨rfl, hB2⟩; have HB2 := Aside0.mk (HB1.out.trans (hB2.mono HB1.out.size)); clear hB2)
  go_upto_region 4 with (go_at_call 5; (refine (C3.out _).mono ?_); rintro e w3 ⟨A3, c3, rfl, hR3, hB3⟩; have HB3 := Aside0.mk (HB2.out.trans (hB3.mono HB2.out.size)); have HR3 := Aside0.mk hR3; clear hB3 hR3)
  have j1 : (convert 23 9 (.slice A3 5 c3)).run Tryd.prog w3 = .ok (.string ⟨#[97, 65, 226, 130, 172]⟩) w3 := by
    have := Kd.C_string (P := Tryd.prog) (src := 23) (dst := 9) (c := c3) Tryd.underlying23 Tryd.underlying5 Tryd.underlying9 (Kd.R_reads' HR3.out).2.2
    rw [up_str] at this
    exact this
  go_wp2_with fail
  go_ret
  exact ⟨rfl, HB3.out⟩
end Go.Proofs.YtjenbegobpfclaaDoor.Tx
