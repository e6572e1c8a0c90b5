/- errors.Is of a Fault and its number; quintetkeep.Is, quintetkeep.Turn. -/
import Derived.BigQuiet
import Derived.Deep.QuietTactic
import Derived.WideLaws
import Derived.Test.YtghlfpeifdikkaaDoorFaultAs
import Derived.Test.YtghlfpeifdikkaaDoorBlk
namespace Go.Proofs.YtghlfpeifdikkaaDoor
open Go.RowKit Go.Extern.Stop Go.Stop Go.Extern

theorem run_equalIn_iface_diff (d : Nat) (w : World) (x y : Value) : (Op.equalIn (d + 2) 29 (.iface 56 x) (.iface 23 y)).run Tryd.prog w = .ok false w := by
  simp [Op.equalIn, run_underlying Tryd.underlying29]
theorem run_eql_iface_diff (w : World) (x y : Value) : (binOp .eql 29 (.iface 56 x) (.iface 23 y)).run Tryd.prog w = .ok (.bool false) w := by
  simp only [binOp]
  simp [Op.equal, Op.maxDepth, run_equalIn_iface_diff 9998 w x y]
theorem run_equalIn_errno (d : Nat) (w : World) (a : Int) : (Op.equalIn (d + 2) 29 (.iface 23 (.int .i64 a)) (.iface 23 (.int .i64 a))).run Tryd.prog w = .ok true w := by
  obtain ⟨i, hi, hcmp⟩ := Option.map_eq_some_iff.1 (show (Tryd.prog.info? 23).map (·.comparable) = some true by kernel_rfl)
  simp [Op.equalIn, run_underlying Tryd.underlying29, run_underlying Tryd.underlying23, typeInfo, hi, hcmp]
theorem run_eql_errno (w : World) (a : Int) : (binOp .eql 29 (.iface 23 (.int .i64 a)) (.iface 23 (.int .i64 a))).run Tryd.prog w = .ok (.bool true) w := by
  simp only [binOp]
  simp [Op.equal, Op.maxDepth, run_equalIn_errno 9998 w a]
theorem Tryd.isTypeOf (v : Value) (w : World) : (Extern.ReflectliteType.typeOf #[.iface 23 v]).run Tryd.prog w = .ok (.iface 88 (.agg #[.pointer (some ⟨4, 23, none⟩)])) w := by kernel_rfl
theorem Tryd.isComparable (w : World) : ((Extern.ReflectliteType.method fun t => do Extern.Rtype.noPackHeld "Comparable" t; pure (.bool (← typeInfo t).comparable)) #[.agg #[.pointer (some ⟨4, 23, none⟩)]]).run Tryd.prog w = .ok (.bool true) w := by kernel_rfl
theorem Tryd.callComparable (w : World) : Sem.run Tryd.prog (callFunc 83 #[.agg #[.pointer (some ⟨4, 23, none⟩)]]) w = .ok (.value (.bool true)) w := by
  rw [@run_callFunc_extern Tryd.prog 83 _ (Extern.ReflectliteType.method fun t => do Extern.Rtype.noPackHeld "Comparable" t; pure (.bool (← typeInfo t).comparable)) Tryd.func83 (by kernel_rfl) (by kernel_rfl) (by kernel_rfl) (by kernel_rfl), Tryd.isComparable]
  rfl
theorem Tryd.isMethodComparable (v : Value) (w : World) : (Go.method 247 88 v "Comparable").run Tryd.prog w = .ok (83, v) w := by kernel_rfl
theorem Tryd.noIs (v : Value) (xT : TypeId) (w : World) : (Instr.typeAssert (.iface 56 v) xT 99 true).run Tryd.prog w = .ok (.tuple #[.nilIface, .bool false]) w := run_typeAssert_lacksB Tryd.underlying99 (by kernel_rfl) (by kernel_rfl) v xT w
theorem Tryd.hasUnwrap (v : Value) (xT : TypeId) (w : World) : (Instr.typeAssert (.iface 56 v) xT 95 true).run Tryd.prog w = .ok (.tuple #[.iface 56 v, .bool true]) w := run_typeAssert_hasB Tryd.underlying95 (by kernel_rfl) v xT w
theorem Tryd.methodUnwrap (v : Value) (w : World) : (Go.method 247 56 v "Unwrap").run Tryd.prog w = .ok (77, v) w := by kernel_rfl

set_option maxHeartbeats 4000000 in
/-- errors.Is(a Fault, its own number) -/
theorem is_code (F : Nat) (c : Int) (w : World) (hc : w.cell? ⟨F, 0, none⟩ = some (.int .i64 c)) :
    Calls Tryd.prog 22 #[.iface 56 (.pointer (some ⟨F, 0, none⟩)), .iface 23 (.int .i64 c)] w fun e w' => e = .returned (.bool true) ∧ w = w' := by
  have h8 := @run_callFunc_extern Tryd.prog 37 _ Extern.ReflectliteType.typeOf Tryd.func37 (by kernel_rfl) (by kernel_rfl) (by kernel_rfl) (by kernel_rfl)
  have tT := Tryd.isTypeOf
  have cT := Tryd.callComparable
  have mR := Tryd.isMethodComparable
  have e1 := fun (w : World) (x y : Value) => run_eql_iface_diff w x y
  have e2 := fun (w : World) => run_eql_errno w c
  have n1 := Tryd.noIs
  have n2 := Tryd.hasUnwrap
  have n3 := Tryd.methodUnwrap
  go_enter Tryd.func22, Tryd.ntmps22
  go_wp2
  refine wp_loop_rounds 2 ?_
  rw [rounds_succ]
  go_wp2
  rw [rounds_succ]
  go_wp2
  go_ret
  exact ⟨rfl, rfl⟩
end Go.Proofs.YtghlfpeifdikkaaDoor
