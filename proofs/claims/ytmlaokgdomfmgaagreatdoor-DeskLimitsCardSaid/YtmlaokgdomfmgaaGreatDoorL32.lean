/- A part of the proof. -/
import Derived.Test.YtmlaokgdomfmgaaGreatDoorL31
import Derived.LaidMore
import Derived.LaidLaws
import Derived.LaidHandle
import Derived.Stop.Joined
import Derived.Handed
set_option linter.all false
section
namespace Go.Proofs.YtmlaokgdomfmgaaGreatDoor
open Go Go.Proofs.Z
set_option maxRecDepth 100000
noncomputable def wW (os : Os) : World :=
  let w0 := World.doorLaid Tryz.prog 400 os
  { w0 with heap := w0.heap.modify 3 fun
      | .cells _ t f => .cells (Pinned.utf8FirstZ.map fun (z : Nat) => Value.int .u8 (Int.ofNat z)).toArray t f
      | o => o }
noncomputable abbrev wM (os : Os) (args : Array Value) : World := ((wW os).forCall (fun _ _ => 0) ⟨#[], args, []⟩).memory
theorem m1 (os : Os) (args : Array Value) : (DataW.laidRun Tryz.prog (wM os args) 8 ((lL.filter fun x => x.2.handleName?.isNone).map (·.1))).map (·.1) = some (lL.filter fun x => x.2.handleName?.isNone) := by kernel_rfl
theorem m2a (os : Os) (args : Array Value) : (DataW.laidRun Tryz.prog (wM os args) 8 ((lL.filter fun x => x.2.handleName?.isNone).map (·.1))).map (fun x => nodB 0 x.2) = some true := by kernel_rfl
theorem m2b_0 (os : Os) (args : Array Value) : (DataW.laidRun Tryz.prog (wM os args) 8 ["unicode/utf8.first"]).map (fun x => laidRowsB Tryz.prog (wM os args) x.2) = some true := by kernel_rfl
theorem m2b_1 (os : Os) (args : Array Value) : (DataW.laidRun Tryz.prog (wM os args) 8 ["unicode/utf8.acceptRanges"]).map (fun x => laidRowsB Tryz.prog (wM os args) x.2) = some true := by kernel_rfl
theorem m2b_2 (os : Os) (args : Array Value) : (DataW.laidRun Tryz.prog (wM os args) 8 ["strconv.ErrSyntax"]).map (fun x => laidRowsB Tryz.prog (wM os args) x.2) = some true := by kernel_rfl
theorem m2b_3 (os : Os) (args : Array Value) : (DataW.laidRun Tryz.prog (wM os args) 8 ["strconv.ErrRange"]).map (fun x => laidRowsB Tryz.prog (wM os args) x.2) = some true := by kernel_rfl
theorem m2b_4 (os : Os) (args : Array Value) : (DataW.laidRun Tryz.prog (wM os args) 8 ["internal/strconv.uint64pow10"]).map (fun x => laidRowsB Tryz.prog (wM os args) x.2) = some true := by kernel_rfl
theorem m2b_5 (os : Os) (args : Array Value) : (DataW.laidRun Tryz.prog (wM os args) 8 ["math/bits.deBruijn32tab"]).map (fun x => laidRowsB Tryz.prog (wM os args) x.2) = some true := by kernel_rfl
theorem m2b_6 (os : Os) (args : Array Value) : (DataW.laidRun Tryz.prog (wM os args) 8 ["math/bits.deBruijn64tab"]).map (fun x => laidRowsB Tryz.prog (wM os args) x.2) = some true := by kernel_rfl
theorem m2b_7 (os : Os) (args : Array Value) : (DataW.laidRun Tryz.prog (wM os args) 8 ["strings.asciiSpace"]).map (fun x => laidRowsB Tryz.prog (wM os args) x.2) = some true := by kernel_rfl
theorem m2b_8 (os : Os) (args : Array Value) : (DataW.laidRun Tryz.prog (wM os args) 8 ["unicode.White_Space"]).map (fun x => laidRowsB Tryz.prog (wM os args) x.2) = some true := by kernel_rfl
theorem m2b_e : (lL.filter fun x => x.2.handleName?.isNone).map (·.1) = ["unicode/utf8.first", "unicode/utf8.acceptRanges", "strconv.ErrSyntax", "strconv.ErrRange", "internal/strconv.uint64pow10", "math/bits.deBruijn32tab", "math/bits.deBruijn64tab", "strings.asciiSpace", "unicode.White_Space"] := by kernel_rfl
theorem m2b (os : Os) (args : Array Value) : (DataW.laidRun Tryz.prog (wM os args) 8 ((lL.filter fun x => x.2.handleName?.isNone).map (·.1))).map (fun x => laidRowsB Tryz.prog (wM os args) x.2) = some true := by
  rw [m2b_e]
  exact (rowsB_cons (m2b_0 os args) (rowsB_cons (m2b_1 os args) (rowsB_cons (m2b_2 os args) (rowsB_cons (m2b_3 os args) (rowsB_cons (m2b_4 os args) (rowsB_cons (m2b_5 os args) (rowsB_cons (m2b_6 os args) (rowsB_cons (m2b_7 os args) (rowsB_cons (m2b_8 os args) (by rfl))))))))))
theorem m2 (os : Os) (args : Array Value) : (DataW.laidRun Tryz.prog (wM os args) 8 ((lL.filter fun x => x.2.handleName?.isNone).map (·.1))).map (fun x => decide x.2.Nodup && laidRowsB Tryz.prog (wM os args) x.2) = some true := by
  have a := m2a os args
  have b := m2b os args
  generalize DataW.laidRun Tryz.prog (wM os args) 8 ((lL.filter fun x => x.2.handleName?.isNone).map (·.1)) = r at a b ⊢
  cases r with
  | none => cases a
  | some x =>
    simp only [Option.map_some, Option.some.injEq] at a b ⊢
    rw [nodup_of a, b]; rfl
theorem m3 (os : Os) (args : Array Value) : (lL.filter fun x => x.2.handleName?.isSome).all (handleAtB Tryz.prog (wM os args)) = true := by kernel_rfl
theorem met (os : Os) (args : Array Value) : laidMetH Tryz.prog lL (wM os args) := laidMetH_of_parts (laidMet_of_run' 8 (m1 os args) (m2 os args)) (m3 os args)
abbrev zArgs : Array Value := #[.agg #[.string ⟨#[]⟩, .int .i64 0, .int .i64 0, .int .i64 0, .int .i64 0, .slice none 0 0, .int .i64 0, .int .i64 0, .int .i64 0, .int .i64 0, .int .i64 0, .string ⟨#[]⟩, .slice none 0 0, .int .i64 0, .int .i64 0, .int .i64 0, .int .i64 0, .int .i64 0, .int .i64 0, .int .i64 0, .int .i64 0, .int .i64 0, .int .i64 0, .int .i64 0], .int .i64 0]
theorem wSh (os : Os) : ((wW os).forCall (fun _ _ => 0) ⟨#[], zArgs, []⟩).Shaped Tryz.prog := World.shaped_of_RefB (by kernel_rfl) (by kernel_rfl)
theorem wOk (os : Os) : Input.okWideB Tryz.prog ((wW os).forCall (fun _ _ => 0) ⟨#[], zArgs, []⟩) 5 ⟨#[], zArgs, []⟩ = true := by kernel_rfl
theorem wPre {H : Type} (enc : TypeId × Value → H) (os : Os) : Rows.deskLimitsSpec.preB enc Tryz.prog Tryz.f5 [] false ((wW os).forCall (fun _ _ => 0) ⟨#[], zArgs, []⟩).memory zArgs 8 = true := by kernel_rfl
theorem wSz {H : Type} (enc : TypeId × Value → H) (os : Os) : Rows.deskLimitsSpec.sizedB enc Tryz.prog Tryz.f5 false ((wW os).forCall (fun _ _ => 0) ⟨#[], zArgs, []⟩).memory zArgs 8 = true := by kernel_rfl
end Go.Proofs.YtmlaokgdomfmgaaGreatDoor
end
