/- A part of the proof. -/
import Derived.Test.YtmlaokgdomfmgaaGreatDoorL16
set_option linter.all false
section
namespace Go.Proofs.Z
open Go Go.RowKit Go.Proofs Go.Extern.Stop Go.Stop Go.Extern
theorem rfMKind (h : Value) (w : World) : (Go.method 668 158 (.agg #[h]) "Kind").run Tryz.prog w = .ok (528, h) w := by kernel_rfl
theorem as_nil (t : Value) (w : World) : Calls Tryz.prog 20 #[.nilIface, t] w fun e w' => e = .returned (.bool false) ∧ w' = w := by
  go_enter Tryz.func20, Tryz.ntmps20
  go_wp2
  go_ret
  exact ⟨rfl, rfl⟩
theorem rlm (z : Sem Value) (f : TypeId → Addr → Nat → Nat → Sem Value) (v : Value) :
    ReflectliteValue.method z f #[v] = (do match ← ReflectliteValue.parts v with | none => z | some (t, a, fl) => f t a fl (fl % 32)) := rfl
theorem rfParts65 (a : Addr) (w : World) : (ReflectliteValue.parts (.agg #[rtH 65, .pointer (some a), .int .u64 150])).run Tryz.prog w = .ok (some (65, a, 150)) w := by kernel_rfl
theorem rfIsNil65 (a p : Addr) (W : World) (ha : W.cell? a = some (.pointer (some p))) :
    (ReflectliteValue.method (ReflectliteValue.valueError "reflectlite.Value.IsNil" 0) ReflectliteValue.isNil #[.agg #[rtH 65, .pointer (some a), .int .u64 150]]).run Tryz.prog W = .ok (.bool false) W := by
  rw [rlm]
  simp only [Sem.run_bind, rfParts65, Result.andThen]
  simp [ReflectliteValue.isNil, loadVar, isAgg, underlying, Tryz.underlying65, ha, Result.andThen]
theorem rfElemV65 (a p : Addr) (W : World) (ha : W.cell? a = some (.pointer (some p))) :
    (ReflectliteValue.method (ReflectliteValue.valueError "reflectlite.Value.Elem" 0) ReflectliteValue.elem #[.agg #[rtH 65, .pointer (some a), .int .u64 150]]).run Tryz.prog W
      = .ok (.agg #[rtH 63, .pointer (some p), .int .u64 409]) W := by
  rw [rlm]
  simp only [Sem.run_bind, rfParts65, Result.andThen]
  simp [ReflectliteValue.elem, loadVar, isAgg, underlying, Tryz.underlying65, ha, Result.andThen, rfElemOf65, rfMk63]
theorem rls (v x : Value) : ReflectliteValue.set #[v, x] = (do
    let (some (dst, a, fl), some (src, b, _)) := (← ReflectliteValue.parts v, ← ReflectliteValue.parts x)
      | unsupported (.noEntry "extern/(internal/reflectlite.Value).Set.zeroValue")
    if fl / ReflectliteValue.flagAddr % 2 == 0 then unsupported (.noEntry "extern/(internal/reflectlite.Value).Set.unaddressable")
    let val ← loadVar src b
    if ← Rtype.directlyAssignable dst src then storeVar dst a val
    else if ← Rtype.implements dst src then
      if (← Rtype.kind src) == 20 then
        match val with
        | .nilIface => unsupported (.noEntry "extern/reflectlite: a nil value of one interface type handed on as a value of another")
        | _ => storeVar dst a val
      else storeVar dst a (.iface src val)
    else panicString ("reflectlite.Set: value of type " ++ (← Rtype.spelt src) ++ " is not assignable to type " ++ (← Rtype.spelt dst))
    pure (.tuple #[])) := rfl
theorem rfParts63a (a : Addr) (w : World) : (ReflectliteValue.parts (.agg #[rtH 63, .pointer (some a), .int .u64 409])).run Tryz.prog w = .ok (some (63, a, 409)) w := by kernel_rfl
theorem rfParts63 (a : Addr) (w : World) : (ReflectliteValue.parts (.agg #[rtH 63, .pointer (some a), .int .u64 153])).run Tryz.prog w = .ok (some (63, a, 153)) w := by kernel_rfl
theorem rfSet63 (b o s : Nat) (x y o0 o1 : Value) (W : World) (T : TypeId) (cs : Array Value) (hs0 : W.cell? ⟨s, 0, none⟩ = some x) (hs1 : W.cell? ⟨s, 1, none⟩ = some y) (hb : W.heap[b]? = some (.cells cs T (0, 0))) (ho : o + 2 ≤ cs.size) (hx : x.oneCell' = true) (hy : y.oneCell' = true) :
    (ReflectliteValue.set #[.agg #[rtH 63, .pointer (some ⟨b, o, none⟩), .int .u64 409], .agg #[rtH 63, .pointer (some ⟨s, 0, none⟩), .int .u64 153]]).run Tryz.prog W
      = .ok (.tuple #[]) ((W.setCell ⟨b, o, none⟩ x).setCell ⟨b, o + 1, none⟩ y) := by
  rw [rls]
  simp only [Sem.run_bind, rfParts63a, rfParts63, Result.andThen]
  have h1 : W.frozen? ⟨b, o, none⟩ = false := by simp [World.frozen?, hb]
  have hc1 : (W.cell? ⟨b, o, none⟩).isSome = true := by simp [World.cell?, hb]; omega
  simp [ReflectliteValue.flagAddr, loadVar, isAgg, underlying, Tryz.underlying63, loadCells, loadCellsFrom, Addr.add, hs0, hs1, rfSize63, Result.andThen, rfDirect63, storeVar, Value.cells, storeCells]
  have hlt : b < W.heap.size := (Array.getElem?_eq_some_iff.1 hb).1
  have e1 : W.cell? ⟨b, o, none⟩ = some cs[o] := by simp [World.cell?, hb]
  have hb2 : (W.setCell ⟨b, o, none⟩ x).heap[b]? = some (.cells (cs.set o x) T (0, 0)) := by
    simp [World.setCell, Array.getElem?_modify, hb]
    simp [Array.setIfInBounds, show o < cs.size by omega]
  have e2 : (W.setCell ⟨b, o, none⟩ x).cell? ⟨b, o + 1, none⟩ = some cs[o + 1] := by
    simp only [World.cell?, hb2]
    simp
  have f2 : (W.setCell ⟨b, o, none⟩ x).frozen? ⟨b, o + 1, none⟩ = false := by
    simp [World.frozen?, hb2]
  rw [run_store Tryz.prog W _ _ _ hx, e1]
  simp only [h1]
  simp only [Bool.false_eq_true, if_false]
  rw [run_store Tryz.prog _ _ _ _ hy, e2]
  simp [f2]
end Go.Proofs.Z
end
