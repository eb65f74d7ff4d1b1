/- A part of the proof. -/
import Derived.Test.YtmlaokgdomfmgaaGreatDoorRows
import Derived.LaidByTextLater
import Derived.SevenTiedAt
import Derived.Test.YtmlaokgdomfmgaaGreatDoorL31
set_option linter.all false
section
namespace Go.Proofs.YtmlaokgdomfmgaaGreatDoor
open Go
noncomputable abbrev tL : List (String × DataW Unit) := [("unicode/utf8.acceptRanges", Rows.laid_unicode_utf8_acceptRanges), ("strconv.ErrSyntax", Rows.laid_strconv_ErrSyntax), ("strconv.ErrRange", Rows.laid_strconv_ErrRange), ("internal/strconv.uint64pow10", Rows.laid_internal_strconv_uint64pow10), ("math/bits.deBruijn32tab", Rows.laid_math_bits_deBruijn32tab), ("math/bits.deBruijn64tab", Rows.laid_math_bits_deBruijn64tab), ("strings.asciiSpace", Rows.laid_strings_asciiSpace), ("unicode.White_Space", Rows.laid_unicode_White_Space), ("errors.errorType", Rows.laid_errors_errorType)]
theorem tw1 : Tryz.prog.worded (varsWordLater true) = true := by kernel_rfl
theorem tw2 : Tryz.prog.worded (varsWordLater !true) = false := by kernel_rfl
theorem tw3 : Tryz.prog.worded rootWordLater = true := by kernel_rfl
theorem tk : tL.map (fun x => Tryz.prog.kindOfLater x.1) = ([.data, .sentinel, .sentinel, .data, .data, .data, .data, .listed, .handle] : List LaidKind).map some := by kernel_rfl
theorem tg : (Tryz.prog.funcNamed "gosem.cut.vars").isSome = true := by kernel_rfl
theorem tn : varsNamedLaterB Tryz.prog (varsId Tryz.prog) tL = true := by kernel_rfl
theorem td (os : Os) (tape : Tape) : varsDone Tryz.prog 400 (varsId Tryz.prog) os tape = true := by kernel_rfl
theorem t1 (os : Os) (tape : Tape) : (DataW.laidRun Tryz.prog (varsWorld Tryz.prog 400 (varsId Tryz.prog) os tape).memory 8 ((tL.filter fun x => x.2.handleName?.isNone).map (·.1))).map (·.1) = some (tL.filter fun x => x.2.handleName?.isNone) := by kernel_rfl
theorem t2a (os : Os) (tape : Tape) : (DataW.laidRun Tryz.prog (varsWorld Tryz.prog 400 (varsId Tryz.prog) os tape).memory 8 ((tL.filter fun x => x.2.handleName?.isNone).map (·.1))).map (fun x => Z.nodB 0 x.2) = some true := by kernel_rfl
theorem t2b (os : Os) (tape : Tape) : (DataW.laidRun Tryz.prog (varsWorld Tryz.prog 400 (varsId Tryz.prog) os tape).memory 8 ((tL.filter fun x => x.2.handleName?.isNone).map (·.1))).map (fun x => laidRowsB Tryz.prog (varsWorld Tryz.prog 400 (varsId Tryz.prog) os tape).memory x.2) = some true := by kernel_rfl
theorem t2 (os : Os) (tape : Tape) : (DataW.laidRun Tryz.prog (varsWorld Tryz.prog 400 (varsId Tryz.prog) os tape).memory 8 ((tL.filter fun x => x.2.handleName?.isNone).map (·.1))).map (fun x => decide x.2.Nodup && laidRowsB Tryz.prog (varsWorld Tryz.prog 400 (varsId Tryz.prog) os tape).memory x.2) = some true := by
  have a := t2a os tape
  have b := t2b os tape
  generalize DataW.laidRun Tryz.prog (varsWorld Tryz.prog 400 (varsId Tryz.prog) os tape).memory 8 ((tL.filter fun x => x.2.handleName?.isNone).map (·.1)) = r at a b ⊢
  cases r with
  | none => cases a
  | some x =>
    simp only [Option.map_some, Option.some.injEq] at a b ⊢
    rw [Z.nodup_of a, b]; rfl
theorem t3 (os : Os) (tape : Tape) : (tL.filter fun x => x.2.handleName?.isSome).all (handleAtB Tryz.prog (varsWorld Tryz.prog 400 (varsId Tryz.prog) os tape).memory) = true := by kernel_rfl
theorem tied : Tryz.prog.laidByTextLater tL [.data, .sentinel, .sentinel, .data, .data, .data, .data, .listed, .handle] true :=
  Program.laidByTextLater_by_run_h 400 8 tw1 tw2 tw3 tk tg tn td t1 t2 t3
theorem pinFirst : Tryz.pinned.checked.prog.pinnedFits "unicode/utf8.first" = true := by kernel_rfl
theorem noUnsafe : Tryz.pinned.checked.prog.headLifts.contains "ownunsafe" = false := by kernel_rfl
theorem fitsAll : Tryz.pinned.checked.prog.listedFits [("unicode/utf8.first", Rows.laid_unicode_utf8_first), ("unicode/utf8.acceptRanges", Rows.laid_unicode_utf8_acceptRanges), ("strconv.ErrSyntax", Rows.laid_strconv_ErrSyntax), ("strconv.ErrRange", Rows.laid_strconv_ErrRange), ("internal/strconv.uint64pow10", Rows.laid_internal_strconv_uint64pow10), ("math/bits.deBruijn32tab", Rows.laid_math_bits_deBruijn32tab), ("math/bits.deBruijn64tab", Rows.laid_math_bits_deBruijn64tab), ("strings.asciiSpace", Rows.laid_strings_asciiSpace), ("unicode.White_Space", Rows.laid_unicode_White_Space), ("errors.errorType", Rows.laid_errors_errorType)] = true := by
  unfold Program.listedFits
  rw [noUnsafe]
  kernel_rfl
theorem limits_tied : Rows.deskLimitsRow.laidByTextAt .later Tryz.pinned [.pinned, .data, .sentinel, .sentinel, .data, .data, .data, .data, .listed, .handle] true :=
  OpenClaim.laidByTextAt_pinned rfl rfl tied rfl rfl rfl rfl (fun y hy _e => by
    simp only [Rows.deskLimitsRow, List.zip_cons_cons, List.zip_nil_right, List.mem_cons, List.mem_nil_iff, or_false] at hy
    rcases hy with rfl | rfl | rfl | rfl | rfl | rfl | rfl | rfl | rfl | rfl
    · exact ⟨pinFirst, by kernel_rfl⟩
    · cases _e
    · cases _e
    · cases _e
    · cases _e
    · cases _e
    · cases _e
    · cases _e
    · cases _e
    · cases _e) fitsAll
end Go.Proofs.YtmlaokgdomfmgaaGreatDoor
end
