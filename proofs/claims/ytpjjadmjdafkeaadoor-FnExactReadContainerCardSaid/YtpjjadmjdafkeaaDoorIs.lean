/- errors.Is at a sentinel of errors.New: nil, a readError that unwraps to it. -/
import Derived.Test.YtpjjadmjdafkeaaDoorBase
import Derived.Test.YtpjjadmjdafkeaaDoorChecked
import Derived.LaidEql
import Derived.Stop.Asserts
import Derived.RowKitTokens
namespace Go.Proofs.YtpjjadmjdafkeaaDoor
open Go.RowKit Go.Extern.Stop Go.Stop Go.Extern
theorem isTypeOf (v : Value) (w : World) : (Extern.ReflectliteType.typeOf #[.iface 82 v]).run Tryd.prog w = .ok (.iface 72 (.agg #[.pointer (some ⟨1, 82, none⟩)])) w := by kernel_rfl
/-- What reflectlite's Comparable is in the model. -/
def cmpM : Array Value → Sem Value := Extern.ReflectliteType.method fun t => do Extern.Rtype.noPackHeld "Comparable" t; pure (.bool (← typeInfo t).comparable)
theorem isComparable (w : World) : (cmpM #[.agg #[.pointer (some ⟨1, 82, none⟩)]]).run Tryd.prog w = .ok (.bool true) w := by kernel_rfl
theorem isComp : (Tryd.prog.info? 82).map (·.comparable) = some true := by kernel_rfl
theorem isSize : (Tryd.prog.info? 109).map (·.size) = some 1 := by kernel_rfl
theorem noIsE (v : Value) (xT : TypeId) (w : World) : (Instr.typeAssert (.iface 82 v) xT 74 true).run Tryd.prog w = .ok (.tuple #[.nilIface, .bool false]) w := run_typeAssert_lacksB Tryd.underlying74 (by kernel_rfl) (by kernel_rfl) v xT w
theorem noIsR (v : Value) (xT : TypeId) (w : World) : (Instr.typeAssert (.iface 70 v) xT 74 true).run Tryd.prog w = .ok (.tuple #[.nilIface, .bool false]) w := run_typeAssert_lacksB Tryd.underlying74 (by kernel_rfl) (by kernel_rfl) v xT w
theorem hasUnwrapR (v : Value) (xT : TypeId) (w : World) : (Instr.typeAssert (.iface 70 v) xT 77 true).run Tryd.prog w = .ok (.tuple #[.iface 70 v, .bool true]) w := run_typeAssert_hasB Tryd.underlying77 (by kernel_rfl) v xT w
theorem isMethodComparable (v : Value) (w : World) : (Go.method 221 72 v "Comparable").run Tryd.prog w = .ok (65, v) w := by kernel_rfl
theorem methodUnwrap (v : Value) (w : World) : (Go.method 221 70 v "Unwrap").run Tryd.prog w = .ok (61, v) w := by kernel_rfl
/-- errors.Is(nil, x). -/
theorem is_nil (b : Addr) (w : World) :
    Calls Tryd.prog 29 #[.nilIface, .iface 82 (.pointer (some b))] w fun e w' => e = .returned (.bool false) ∧ w' = w := by
  have hn := run_eql_iface_nil_left (P := Tryd.prog) w 82 (.pointer (some b)) Tryd.underlying49
  go_enter Tryd.func29, Tryd.ntmps29
  go_wp2
  go_ret
  exact ⟨rfl, rfl⟩

theorem unwrap_any (s : ByteArray) (b : Addr) (w : World) (h1 : w.cell? ⟨0, 0, none⟩ = some (.iface 82 (.pointer (some b)))) :
    Calls Tryd.prog 61 #[.agg #[.string s]] w fun e w' => e = .returned (.iface 82 (.pointer (some b))) ∧ Ext w w' := by
  have h2 := cell_ext (Ext.alloc w (.cells #[.string s] 70)) h1
  go_enter Tryd.func61, Tryd.ntmps61
  go_wp2
  go_ret
  exact ⟨rfl, by (repeat (first | with_reducible exact Below.refl _ _ | assumption | with_reducible refine below_drewN ?_ _ | with_reducible refine Below.drew ?_ | with_reducible refine Below.setCell ?_ (by simp <;> omega) _ | with_reducible refine Ext.trans ?_ (Ext.alloc _ _)))⟩
theorem is_read0 (s : ByteArray) (b : Addr) (w : World) (h1 : w.cell? ⟨0, 0, none⟩ = some (.iface 82 (.pointer (some b)))) :
    Calls Tryd.prog 42 #[.iface 70 (.agg #[.string s]), .iface 82 (.pointer (some b)), .bool true] w fun e w' => e = .returned (.bool true) ∧ Ext w w' := by
  obtain ⟨i, hi, hcmp⟩ := Option.map_eq_some_iff.1 isComp
  obtain ⟨j, hj, hjs⟩ := Option.map_eq_some_iff.1 isSize
  have h8 := @run_callFunc_extern Tryd.prog 41 _ Extern.ReflectliteType.typeOf Tryd.func41 (by kernel_rfl) (by kernel_rfl) (by kernel_rfl) (by kernel_rfl)
  have h32 := @run_callFunc_extern Tryd.prog 65 _ cmpM Tryd.func65 (by kernel_rfl) (by kernel_rfl) (by kernel_rfl) (by kernel_rfl)
  have tT := isTypeOf
  have cT := isComparable
  have mR := isMethodComparable
  have nE := noIsE
  have nW := noIsR
  have uW := hasUnwrapR
  have mU := methodUnwrap
  have hty := run_eql_iface_types (P := Tryd.prog) 70 82 (.agg #[.string s]) (.pointer (some b)) Tryd.underlying49 (by decide) w
  go_enter Tryd.func42, Tryd.ntmps42
  go_wp2_with fail
  refine wp_loop_rounds 2 ?_
  rw [rounds_succ]
  go_wp2_with fail
  refine (unwrap_any s b w h1).mono ?_
  rintro e w2 ⟨rfl, e2⟩
  have heq := run_eql_iface_ptr_same (P := Tryd.prog) w2 b Tryd.underlying49 Tryd.underlying82 hi hcmp hj
  go_wp2_with fail
  rw [rounds_succ]
  go_wp2_with fail
  go_ret
  exact ⟨rfl, e2⟩
/-- errors.Is(e, x), e a readError, x the sentinel: one Unwrap, then equal. -/
theorem is_read (s : ByteArray) (b : Addr) (w : World) (h1 : w.cell? ⟨0, 0, none⟩ = some (.iface 82 (.pointer (some b)))) :
    Calls Tryd.prog 29 #[.iface 70 (.agg #[.string s]), .iface 82 (.pointer (some b))] w fun e w' => e = .returned (.bool true) ∧ Ext w w' := by
  obtain ⟨i, hi, hcmp⟩ := Option.map_eq_some_iff.1 isComp
  obtain ⟨j, hj, hjs⟩ := Option.map_eq_some_iff.1 isSize
  have h8 := @run_callFunc_extern Tryd.prog 41 _ Extern.ReflectliteType.typeOf Tryd.func41 (by kernel_rfl) (by kernel_rfl) (by kernel_rfl) (by kernel_rfl)
  have h32 := @run_callFunc_extern Tryd.prog 65 _ cmpM Tryd.func65 (by kernel_rfl) (by kernel_rfl) (by kernel_rfl) (by kernel_rfl)
  have tT := isTypeOf
  have cT := isComparable
  have mR := isMethodComparable
  have nE := noIsE
  have nW := noIsR
  have uW := hasUnwrapR
  have mU := methodUnwrap
  have hty := run_eql_iface_types (P := Tryd.prog) 70 82 (.agg #[.string s]) (.pointer (some b)) Tryd.underlying49 (by decide) w
  go_enter Tryd.func29, Tryd.ntmps29
  go_wp2_with fail
  refine (is_read0 s b w h1).mono ?_
  rintro e w2 ⟨rfl, e2⟩
  go_wp2_with fail
  go_ret
  exact ⟨rfl, e2⟩
end Go.Proofs.YtpjjadmjdafkeaaDoor
