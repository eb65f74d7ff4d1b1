/- A part of the proof. -/
import Derived.Test.YtmlaokgdomfmgaaGreatDoorL15
import Derived.WalkKit
import Derived.LaidEql
import Derived.Stop.Asserts
import Derived.RowKitTokens
set_option linter.all false
section
namespace Go.Proofs.Z
open Go Go.RowKit Go.Proofs Go.Extern.Stop Go.Stop Go.Extern
abbrev rtH (t : Nat) : Value := .pointer (some ⟨12, t, none⟩)
theorem rfValueOf65 (t : Addr) (w : World) : (ReflectliteValue.unpack (.iface 65 (.pointer (some t)))).run Tryz.prog w
    = .ok (.agg #[rtH 65, .pointer (some ⟨w.heap.size, 0, none⟩), .int .u64 150]) (w.alloc (.cells #[.pointer (some t)] 65)) := by kernel_rfl
theorem rfType65 (a : Addr) (w : World) : (ReflectliteValue.methodAny (ReflectliteValue.valueError "reflectlite.Value.Type" 0) (fun t _ _ _ => ReflectliteType.toType t) #[.agg #[rtH 65, .pointer (some a), .int .u64 150]]).run Tryz.prog w
    = .ok (.iface 158 (.agg #[rtH 65])) w := by kernel_rfl
theorem rfElem65 (w : World) : (ReflectliteType.method ReflectliteType.elem #[.agg #[rtH 65]]).run Tryz.prog w = .ok (.iface 158 (.agg #[rtH 63])) w := by kernel_rfl
theorem rfKind65 (w : World) : ((ReflectliteType.abiMethod fun t => (fun a : Nat => Value.int IntKind.u8 (a : Int)) <$> Rtype.kind t) #[rtH 65]).run Tryz.prog w = .ok (.int .u8 22) w := by kernel_rfl
theorem rfKind63 (w : World) : ((ReflectliteType.abiMethod fun t => (fun a : Nat => Value.int IntKind.u8 (a : Int)) <$> Rtype.kind t) #[rtH 63]).run Tryz.prog w = .ok (.int .u8 25) w := by kernel_rfl
theorem rfImplements63 (w : World) : (ReflectliteType.relation "Implements" ReflectliteType.implements_ #[.agg #[rtH 63], .iface 158 (.agg #[rtH 59])]).run Tryz.prog w = .ok (.bool true) w := by kernel_rfl
theorem rfTypeOf63 (v : Value) (w : World) : (ReflectliteType.typeOf #[.iface 63 v]).run Tryz.prog w = .ok (.iface 158 (.agg #[rtH 63])) w := by kernel_rfl
theorem rfAssignable63 (w : World) : (ReflectliteType.relation "AssignableTo" ReflectliteType.assignableTo #[.agg #[rtH 63], .iface 158 (.agg #[rtH 63])]).run Tryz.prog w = .ok (.bool true) w := by kernel_rfl
theorem rfMElem (h : Value) (w : World) : (Go.method 668 158 (.agg #[h]) "Elem").run Tryz.prog w = .ok (537, .agg #[h]) w := by kernel_rfl
theorem rfMImpl (h : Value) (w : World) : (Go.method 668 158 (.agg #[h]) "Implements").run Tryz.prog w = .ok (538, .agg #[h]) w := by kernel_rfl
theorem rfMAssign (h : Value) (w : World) : (Go.method 668 158 (.agg #[h]) "AssignableTo").run Tryz.prog w = .ok (535, .agg #[h]) w := by kernel_rfl
theorem rfValueOf63 (x y : Value) (w : World) : (ReflectliteValue.unpack (.iface 63 (.agg #[x, y]))).run Tryz.prog w
    = .ok (.agg #[rtH 63, .pointer (some ⟨w.heap.size, 0, none⟩), .int .u64 153]) (w.alloc (.cells #[x, y] 63)) := by kernel_rfl
theorem rfElemOf65 (w : World) : (Rtype.elem? 65).run Tryz.prog w = .ok (some 63) w := by kernel_rfl
theorem rfMk63 (p : Addr) (w : World) : (ReflectliteValue.mk 63 p ReflectliteValue.flagAddr).run Tryz.prog w = .ok (.agg #[rtH 63, .pointer (some p), .int .u64 409]) w := by kernel_rfl
theorem rfDirect63 (w : World) : (Rtype.directlyAssignable 63 63).run Tryz.prog w = .ok true w := by kernel_rfl
theorem rfSize63 (w : World) : (sizeOf 63).run Tryz.prog w = .ok 2 w := by kernel_rfl
end Go.Proofs.Z
end
