/- errors.Is where both errors are numbers of api.Errno, by its own text. -/
import Derived.Test.YtdlfnhobnijdjaaDoorProg
import Derived.WalkKit
import Derived.LaidEql
import Derived.Stop.Asserts
import Derived.RowKitTokens
set_option linter.unusedVariables false
set_option linter.unusedSimpArgs false
namespace Go.Proofs.YtdlfnhobnijdjaaDoor.Sts
open Go.RowKit Go.Extern.Stop Go.Stop Go.Extern

abbrev gN : Nat := 1
abbrev TE : Nat := 26
abbrev TR : Nat := 58
section
variable {P : Program} (w : World)
theorem run_equalIn_iface_int (d : Nat) {ti tn : TypeId} {ms : Array (String × TypeId)} {i : TypeInfo} {k : IntKind} (a b : Int)
    (hi : P.underlying ti = some (.interface ms)) (hn : P.underlying tn = some (.int k)) (hinfo : P.info? tn = some i) (hcomp : i.comparable = true) :
    (Op.equalIn (d + 2) ti (.iface tn (.int k a)) (.iface tn (.int k b))).run P w = .ok (a == b) w := by
  simp [Op.equalIn, run_underlying hi, run_underlying hn, typeInfo, hinfo, hcomp]
theorem run_eql_iface_int {ti tn : TypeId} {ms : Array (String × TypeId)} {i : TypeInfo} {k : IntKind} (a b : Int)
    (hi : P.underlying ti = some (.interface ms)) (hn : P.underlying tn = some (.int k)) (hinfo : P.info? tn = some i) (hcomp : i.comparable = true) :
    (binOp .eql ti (.iface tn (.int k a)) (.iface tn (.int k b))).run P w = .ok (.bool (a == b)) w := by
  simp only [binOp]
  simp [Op.equal, Op.maxDepth, run_equalIn_iface_int w 9998 a b hi hn hinfo hcomp]
end
theorem isTypeOf (v : Value) (w : World) : (Extern.ReflectliteType.typeOf #[.iface 26 v]).run Tryd.prog w = .ok (.iface 58 (.agg #[.pointer (some ⟨gN, 26, none⟩)])) w := by kernel_rfl
def cmpF : Array Value → Sem Value := Extern.ReflectliteType.method fun t => do Rtype.noPackHeld "Comparable" t; pure (.bool (← typeInfo t).comparable)
theorem isComparable (w : World) : (cmpF #[.agg #[.pointer (some ⟨gN, 26, none⟩)]]).run Tryd.prog w = .ok (.bool true) w := by kernel_rfl
theorem isMethodComparable (v : Value) (w : World) : (Go.method 203 58 v "Comparable").run Tryd.prog w = .ok (46, v) w := by kernel_rfl
theorem isComp : (Tryd.prog.info? 26).map (·.comparable) = some true := by kernel_rfl
theorem noIsE (v : Value) (xT : TypeId) (w : World) : (Instr.typeAssert (.iface 26 v) xT 60 true).run Tryd.prog w = .ok (.tuple #[.nilIface, .bool false]) w := run_typeAssert_lacksB Tryd.underlying60 (by kernel_rfl) (by kernel_rfl) v xT w
theorem noUnwrapE (v : Value) (xT : TypeId) (w : World) : (Instr.typeAssert (.iface 26 v) xT 63 true).run Tryd.prog w = .ok (.tuple #[.nilIface, .bool false]) w := run_typeAssert_lacksB Tryd.underlying63 (by kernel_rfl) (by kernel_rfl) v xT w
theorem noUnwrapsE (v : Value) (xT : TypeId) (w : World) : (Instr.typeAssert (.iface 26 v) xT 65 true).run Tryd.prog w = .ok (.tuple #[.nilIface, .bool false]) w := run_typeAssert_lacksB Tryd.underlying65 (by kernel_rfl) (by kernel_rfl) v xT w
theorem eql_int (a b : Int) (w : World) : (binOp .eql 30 (.iface 26 (.int .i64 a)) (.iface 26 (.int .i64 b))).run Tryd.prog w = .ok (.bool (a == b)) w := by
  obtain ⟨i, hi, hcmp⟩ := Option.map_eq_some_iff.1 isComp
  exact run_eql_iface_int w a b Tryd.underlying30 Tryd.underlying26 hi hcmp
/-- errors.is at two numbers. -/
theorem is_num (a b : Int) (w : World) :
    Calls Tryd.prog 14 #[.iface 26 (.int .i64 a), .iface 26 (.int .i64 b), .bool true] w fun e w' => e = .returned (.bool (a == b)) ∧ w' = w := by
  have nE := noIsE
  have uE := noUnwrapE
  have vE := noUnwrapsE
  by_cases hab : a = b
  · subst hab
    have hb : (a == a) = true := by simp
    have heq := eql_int a a
    rw [hb] at heq ⊢
    clear hb
    go_enter Tryd.func14, Tryd.ntmps14
    go_wp2
    refine wp_loop_rounds 1 ?_
    rw [rounds_succ]
    go_wp2
    go_ret
    exact ⟨rfl, rfl⟩
  · have hb : (a == b) = false := by simp [hab]
    have heq := eql_int a b
    rw [hb] at heq ⊢
    clear hb hab
    go_enter Tryd.func14, Tryd.ntmps14
    go_wp2
    refine wp_loop_rounds 1 ?_
    rw [rounds_succ]
    go_wp2
    go_ret
    exact ⟨rfl, rfl⟩
/-- errors.Is at a first error of which errors.is is known. -/
theorem Is_of (T : TypeId) (v : Value) (b : Int) (r : Bool) (w : World)
    (h : Calls Tryd.prog 14 #[.iface T v, .iface 26 (.int .i64 b), .bool true] w fun e w' => e = .returned (.bool r) ∧ w' = w) :
    Calls Tryd.prog 11 #[.iface T v, .iface 26 (.int .i64 b)] w fun e w' => e = .returned (.bool r) ∧ w' = w := by
  have h10 := @run_callFunc_extern Tryd.prog 13 _ Extern.ReflectliteType.typeOf Tryd.func13 (by kernel_rfl) (by kernel_rfl) (by kernel_rfl) (by kernel_rfl)
  have h31 := @run_callFunc_extern Tryd.prog 46 _ cmpF Tryd.func46 (by kernel_rfl) (by kernel_rfl) (by kernel_rfl) (by kernel_rfl)
  have tT := isTypeOf
  have cT := isComparable
  have mR := isMethodComparable
  go_enter Tryd.func11, Tryd.ntmps11
  go_wp2_with (go_at_call 14; refine h.mono ?_; rintro e w' ⟨rfl, rfl⟩)
  go_ret
  exact ⟨rfl, rfl⟩
end Go.Proofs.YtdlfnhobnijdjaaDoor.Sts
