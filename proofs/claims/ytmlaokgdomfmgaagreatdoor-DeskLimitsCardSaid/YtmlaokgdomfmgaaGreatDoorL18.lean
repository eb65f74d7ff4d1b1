/- A part of the proof. -/
import Derived.Test.YtmlaokgdomfmgaaGreatDoorL17
set_option linter.all false
section
namespace Go.Proofs.Z
open Go Go.RowKit Go.Proofs Go.Extern.Stop Go.Stop Go.Extern
abbrev asW1 (w : World) (t : Addr) : World := w.alloc (.cells #[.pointer (some t)] 65)
abbrev asV (w : World) : Value := .agg #[rtH 65, .pointer (some ⟨w.heap.size, 0, none⟩), .int .u64 150]
abbrev asBox (w : World) : Obj := .cells #[rtH 65, .pointer (some ⟨w.heap.size, 0, none⟩), .int .u64 150] 105
set_option maxHeartbeats 4000000 in
set_option maxRecDepth 100000 in
theorem as_hit (b o : Nat) (x y : Value) (T : TypeId) (cs : Array Value) (w : World) (hg : w.cell? ⟨0, 0, none⟩ = some (.iface 158 (.agg #[rtH 59]))) (hb : w.heap[b]? = some (.cells cs T (0, 0))) (ho : o + 2 ≤ cs.size) (hx : x.oneCell' = true) (hy : y.oneCell' = true) :
    Calls Tryz.prog 20 #[.iface 63 (.agg #[x, y]), .iface 65 (.pointer (some ⟨b, o, none⟩))] w fun ev w' => ev = .returned (.bool true) ∧
      w' = (((((asW1 w ⟨b, o, none⟩).alloc (asBox w)).alloc (asBox w)).alloc (.cells #[x, y] 63)).setCell ⟨b, o, none⟩ x).setCell ⟨b, o + 1, none⟩ y := by
  have h42 := @run_callFunc_extern Tryz.prog 42 _ (fun args => ReflectliteValue.unpack (args.getD 0 (.tuple #[]))) Tryz.func42 (by kernel_rfl) (by kernel_rfl) (by kernel_rfl) (by kernel_rfl)
  have h43 := @run_callFunc_extern Tryz.prog 43 _ (ReflectliteValue.methodAny (ReflectliteValue.valueError "reflectlite.Value.Type" 0) (fun t _ _ _ => ReflectliteType.toType t)) Tryz.func43 (by kernel_rfl) (by kernel_rfl) (by kernel_rfl) (by kernel_rfl)
  have h44 := @run_callFunc_extern Tryz.prog 44 _ (ReflectliteValue.method (ReflectliteValue.valueError "reflectlite.Value.IsNil" 0) ReflectliteValue.isNil) Tryz.func44 (by kernel_rfl) (by kernel_rfl) (by kernel_rfl) (by kernel_rfl)
  have h528 := @run_callFunc_extern Tryz.prog 528 _ (ReflectliteType.abiMethod fun t => do pure (.int .u8 (← Rtype.kind t))) Tryz.func528 (by kernel_rfl) (by kernel_rfl) (by kernel_rfl) (by kernel_rfl)
  have h537 := @run_callFunc_extern Tryz.prog 537 _ (ReflectliteType.method ReflectliteType.elem) Tryz.func537 (by kernel_rfl) (by kernel_rfl) (by kernel_rfl) (by kernel_rfl)
  have h538 := @run_callFunc_extern Tryz.prog 538 _ (ReflectliteType.relation "Implements" ReflectliteType.implements_) Tryz.func538 (by kernel_rfl) (by kernel_rfl) (by kernel_rfl) (by kernel_rfl)
  have h79 := @run_callFunc_extern Tryz.prog 79 _ ReflectliteType.typeOf Tryz.func79 (by kernel_rfl) (by kernel_rfl) (by kernel_rfl) (by kernel_rfl)
  have h535 := @run_callFunc_extern Tryz.prog 535 _ (ReflectliteType.relation "AssignableTo" ReflectliteType.assignableTo) Tryz.func535 (by kernel_rfl) (by kernel_rfl) (by kernel_rfl) (by kernel_rfl)
  have h80 := @run_callFunc_extern Tryz.prog 80 _ (ReflectliteValue.method (ReflectliteValue.valueError "reflectlite.Value.Elem" 0) ReflectliteValue.elem) Tryz.func80 (by kernel_rfl) (by kernel_rfl) (by kernel_rfl) (by kernel_rfl)
  have h81 := @run_callFunc_extern Tryz.prog 81 _ ReflectliteValue.set Tryz.func81 (by kernel_rfl) (by kernel_rfl) (by kernel_rfl) (by kernel_rfl)
  have tO := rfTypeOf63
  have mA := rfMAssign
  have a63 := rfAssignable63
  have v63 := rfValueOf63
  have v65 := rfValueOf65
  have t65 := rfType65
  have mK := rfMKind
  have mE := rfMElem
  have mI := rfMImpl
  have k65 := rfKind65
  have k63 := rfKind63
  have e65 := rfElem65
  have i63 := rfImplements63
  have n44 := rfIsNil65 ⟨w.heap.size, 0, none⟩ ⟨b, o, none⟩ ((asW1 w ⟨b, o, none⟩).alloc (asBox w)) (by simp)
  have hlt : 0 < w.heap.size := by
    rcases Nat.eq_zero_or_pos w.heap.size with h0 | h
    · simp [World.cell?, h0] at hg
    · exact h
  have hg2 : ((asW1 w ⟨b, o, none⟩).alloc (asBox w)).cell? ⟨0, 0, none⟩ = some (.iface 158 (.agg #[rtH 59])) := by
    rw [World.cell?_alloc_lt _ _ ⟨0, 0, none⟩ (by simp), World.cell?_alloc_lt _ _ ⟨0, 0, none⟩ hlt]; exact hg
  have hbl : b < w.heap.size := (Array.getElem?_eq_some_iff.1 hb).1
  have el := rfElemV65 ⟨w.heap.size, 0, none⟩ ⟨b, o, none⟩ (((asW1 w ⟨b, o, none⟩).alloc (asBox w)).alloc (asBox w)) (by rw [World.cell?_alloc_lt _ _ ⟨w.heap.size, 0, none⟩ (by simp; omega)]; simp)
  have hb4 : ((((asW1 w ⟨b, o, none⟩).alloc (asBox w)).alloc (asBox w)).alloc (.cells #[x, y] 63)).heap[b]? = some (.cells cs T (0, 0)) := by
    simp only [World.alloc]
    rw [Array.getElem?_push_lt (by simp; omega), Array.getElem_push_lt (by simp; omega), Array.getElem_push_lt (by simp; omega), Array.getElem_push_lt hbl]
    rw [← hb]; exact (Array.getElem?_eq_getElem hbl).symm
  have st := rfSet63 b o (w.heap.size + 1 + 1 + 1) x y cs[o] cs[o + 1] ((((asW1 w ⟨b, o, none⟩).alloc (asBox w)).alloc (asBox w)).alloc (.cells #[x, y] 63)) T cs
    (by rw [World.cell?_alloc_at _ _ _ _ (by simp)]; rfl) (by rw [World.cell?_alloc_at _ _ _ _ (by simp)]; rfl) hb4 ho hx hy
  go_enter Tryz.func20, Tryz.ntmps20
  go_wp2
  refine wp_loop_rounds 1 ?_
  rw [rounds_succ]
  go_wp2
  go_ret
  exact ⟨rfl, rfl⟩
end Go.Proofs.Z
end
