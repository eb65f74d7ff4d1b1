/- A part of the proof. -/
import Derived.Test.YtmlaokgdomfmgaaGreatDoorL34
import Derived.Test.YtmlaokgdomfmgaaGreatDoorRows
set_option linter.all false
section
namespace Go.Proofs.YtmlaokgdomfmgaaGreatDoor
open Go Go.Proofs.Z
set_option maxRecDepth 100000
theorem jf5_wf : (Rows.deskLimitsRow.wf (OpenSpec.ofChange Rows.deskLimitsSpec)) = true := by kernel_rfl
theorem jf5_lay : (laidOutB Tryz.prog) = true := by kernel_rfl
theorem jf5_maps0 : (mapsRowed Tryz.prog) = true := by kernel_rfl
theorem jf5_read : (Tryz.f5.params.all (Tryz.prog.readableRec ·)) = true := by kernel_rfl
theorem jf5_tie : (namedTie Tryz.prog Rows.deskLimitsRow.named Rows.deskLimitsSpec.vars) = true := by kernel_rfl
theorem jf5_st1 : ((Rows.deskLimitsRow.stops == [])) = true := by kernel_rfl
theorem jf5_st2 : ((Tryz.prog.stops == [])) = true := by kernel_rfl
theorem jf5_kn1 : ((Rows.deskLimitsRow.knobs == [])) = true := by kernel_rfl
theorem jf5_kn2 : ((Tryz.prog.stopKnobs == [])) = true := by kernel_rfl
theorem jf5_inp : ((Rows.deskLimitsRow.inPlace == Tryz.prog.inPlace 5)) = true := by kernel_rfl
theorem jf5_unf : ((Rows.deskLimitsRow.unfollowed == Tryz.prog.unfollowed 5)) = true := by kernel_rfl
theorem jf5_rec : ((Rows.deskLimitsRow.recurses == Tryz.prog.recurses 5)) = true := by kernel_rfl
theorem jf5_nam : ((Rows.deskLimitsRow.named == Tryz.prog.varsNamed 5)) = true := by kernel_rfl
theorem jf5_map : ((Rows.deskLimitsRow.maps == (Tryz.f5.params.toList ++ Rows.deskLimitsSpec.plain.varTypes Tryz.prog).any (Tryz.prog.mapsRec ·))) = true := by kernel_rfl
theorem jf5_ifa : ((Rows.deskLimitsRow.ifaces == (Tryz.f5.params.toList ++ Rows.deskLimitsSpec.plain.varTypes Tryz.prog).any (Tryz.prog.ifacesRec ·))) = true := by kernel_rfl
theorem jf5_mao : ((Rows.deskLimitsRow.mapsOut == Tryz.prog.mapsAmong Tryz.f5.resultTypes.toList)) = true := by kernel_rfl
theorem jf5_loo : ((Rows.deskLimitsRow.loops == (Tryz.f5.params.toList ++ Rows.deskLimitsSpec.plain.varTypes Tryz.prog).any (Tryz.prog.loopsFrom ·))) = true := by kernel_rfl
theorem jf5_wid : ((Rows.deskLimitsRow.wideKeys == (Tryz.f5.params.toList ++ Rows.deskLimitsSpec.plain.varTypes Tryz.prog ++ Tryz.f5.resultTypes.toList).any (Tryz.prog.wideKeysFrom ·))) = true := by kernel_rfl
theorem jf5_var : (Rows.deskLimitsSpec.vars.all (Tryz.prog.varReadable ·)) = true := by kernel_rfl
theorem jf5_res : (Tryz.f5.resultTypes.all (fun t => Tryz.prog.readableRec t && decide (t < Tryz.prog.types.size))) = true := by kernel_rfl
theorem jf5_ifo : ((Rows.deskLimitsRow.ifacesOut == Tryz.f5.resultTypes.toList.any (Tryz.prog.ifacesRec ·))) = true := by kernel_rfl
theorem jf5_lpo : ((Rows.deskLimitsRow.loopsOut == Tryz.f5.resultTypes.toList.any (Tryz.prog.loopsFrom ·))) = true := by kernel_rfl
theorem jf5_pla : ((Rows.deskLimitsRow.plainKeys == Tryz.prog.plainKeys)) = true := by kernel_rfl
theorem jf5_sho : (Rows.deskLimitsRow.shortTexts.isNone) = true := by kernel_rfl
theorem jf5_hea : (Tryz.prog.stopsHeard) = true := by kernel_rfl
theorem jf5_may : (Tryz.prog.mayEnter) = true := by kernel_rfl
theorem jf5_lif : ((Rows.deskLimitsRow.lifted == Tryz.prog.liftsFinal)) = true := by kernel_rfl
theorem jf5_mak : ((Tryz.prog.make == some Rows.deskLimitsRow.make)) = true := by kernel_rfl
theorem jf5_dom : (Rows.deskLimitsRow.domain.isEmpty) = true := by kernel_rfl
theorem jf5_kin : (Rows.deskLimitsRow.kinds.isEmpty) = true := by kernel_rfl
theorem jf5_pin : ((Rows.deskLimitsRow.pinned == Rows.deskLimitsRow.pinnedBy)) = true := by kernel_rfl
theorem jf5_vei : ((Rows.deskLimitsRow.veiled == (Tryz.f5.params.toList ++ Rows.deskLimitsSpec.plain.varTypes Tryz.prog ++ Tryz.f5.resultTypes.toList).any (Tryz.prog.veiledRec ·))) = true := by kernel_rfl
theorem jf5_vef : (Rows.deskLimitsRow.veiledFits Tryz.prog Tryz.f5.params.toList (Tryz.f5.params.toList ++ Rows.deskLimitsSpec.plain.varTypes Tryz.prog ++ Tryz.f5.resultTypes.toList)) = true := by kernel_rfl
theorem jf5 : joinedFacts Tryz.prog 5 Tryz.f5 Rows.deskLimitsSpec Rows.deskLimitsRow = true :=
  jf_mk jf5_wf jf5_lay jf5_maps0 jf5_read jf5_tie jf5_st1 jf5_st2 jf5_kn1 jf5_kn2 jf5_inp jf5_unf jf5_rec jf5_nam jf5_map jf5_ifa jf5_mao jf5_loo jf5_wid jf5_var jf5_res jf5_ifo jf5_lpo jf5_pla jf5_sho jf5_hea jf5_may jf5_lif jf5_mak jf5_dom jf5_kin jf5_pin jf5_vei jf5_vef
end Go.Proofs.YtmlaokgdomfmgaaGreatDoor
end
