/- A part of the proof. -/
import Derived.Test.YtmlaokgdomfmgaaGreatDoorCards
import Derived.WalkKit
set_option linter.all false
section
namespace Go.Proofs.YtmlaokgdomfmgaaGreatDoor
open Go
set_option maxRecDepth 100000
theorem jh5_fn : Tryz.prog.funcNamed "gossamer/gossamerlaw24.DeskLimits" = some 5 := by kernel_rfl
theorem jh5_wf : Rows.deskLimitsRow.wfByText (OpenSpec.ofChange Rows.deskLimitsSpec) = true := by kernel_rfl
theorem jh_main : Tryz.prog.mainIs = some (true, "e1bc7262c49f8d73cd4c01980d1c7c16d6874c8fd42151b64429784552f00e1d".toList) := by kernel_rfl
theorem jh_looks : true = Tryz.prog.looks [] := by kernel_rfl
theorem jh5_std : ([35, 3].all fun u => !Tryz.prog.wantsStandIn u) = true := by kernel_rfl
theorem jh5_inst : Tryz.f5.isInstance Tryz.prog Rows.deskLimitsRow.origin Rows.deskLimitsRow.targs := of_decide_eq_true (by kernel_rfl)
theorem jh5_wrap : Tryz.f5.isWrapper Tryz.prog Rows.deskLimitsRow.wrapper Rows.deskLimitsRow.mainSum := by
  unfold Func.isWrapper; rw [if_neg (of_decide_eq_false (by kernel_rfl))]; exact ⟨rfl, rfl⟩
theorem jh5_noInit : Tryz.prog.inits.idxOf? 5 = none := by kernel_rfl
end Go.Proofs.YtmlaokgdomfmgaaGreatDoor
end
section
namespace Go.Proofs.YtmlaokgdomfmgaaGreatDoor
open Go
set_option maxRecDepth 100000
theorem goesAll : (Tryz.prog.funcs.toList.all fun f => !f.goes) = true := by kernel_rfl
theorem goesBy_false {c : OpenClaim} (h : c.start = .entering) : false = c.goesBy Tryz.prog := by
  have key : ∀ f, f ∈ Tryz.prog.funcs → f.goes = false := fun f hf => by
    have := List.all_eq_true.1 goesAll f (by simpa using hf)
    simpa using this
  have k2 : ∀ f, Tryz.prog.goes f = false := fun f => by
    unfold Program.goes
    rw [Bool.or_eq_false_iff]
    refine ⟨?_, ?_⟩
    · rw [List.any_eq_false]
      intro g _ hg
      cases he : Tryz.prog.funcs[g]? with
      | none => rw [he] at hg; simp at hg
      | some fn => rw [he] at hg; simp only [Option.any_some] at hg; rw [key fn (Array.mem_of_getElem? he)] at hg; cases hg
    · rw [Bool.and_eq_false_iff]
      right
      rw [Array.any_eq_false]
      intro i hi
      rw [key _ (Array.getElem_mem hi)]; simp
  unfold OpenClaim.goesBy Program.goesAt Program.goesFrom
  rw [h]
  cases Tryz.prog.funcNamed c.func with
  | none => rfl
  | some f => simp [k2]
end Go.Proofs.YtmlaokgdomfmgaaGreatDoor
end
