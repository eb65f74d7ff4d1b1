/- A part of the proof. -/
import Derived.JoinedOf
set_option linter.all false
section
namespace Go.Proofs.Z
open Go
theorem jf_mk {P : Program} {f : FuncId} {fn : Func} {s : ChangeSpec} {c : OpenClaim}
    (h_wf : (c.wf (OpenSpec.ofChange s)) = true)
    (h_lay : (laidOutB P) = true)
    (h_maps0 : (mapsRowed P) = true)
    (h_read : (fn.params.all (P.readableRec ·)) = true)
    (h_tie : (namedTie P c.named s.vars) = true)
    (h_st1 : ((c.stops == [])) = true)
    (h_st2 : ((P.stops == [])) = true)
    (h_kn1 : ((c.knobs == [])) = true)
    (h_kn2 : ((P.stopKnobs == [])) = true)
    (h_inp : ((c.inPlace == P.inPlace f)) = true)
    (h_unf : ((c.unfollowed == P.unfollowed f)) = true)
    (h_rec : ((c.recurses == P.recurses f)) = true)
    (h_nam : ((c.named == P.varsNamed f)) = true)
    (h_map : ((c.maps == (fn.params.toList ++ s.plain.varTypes P).any (P.mapsRec ·))) = true)
    (h_ifa : ((c.ifaces == (fn.params.toList ++ s.plain.varTypes P).any (P.ifacesRec ·))) = true)
    (h_mao : ((c.mapsOut == P.mapsAmong fn.resultTypes.toList)) = true)
    (h_loo : ((c.loops == (fn.params.toList ++ s.plain.varTypes P).any (P.loopsFrom ·))) = true)
    (h_wid : ((c.wideKeys == (fn.params.toList ++ s.plain.varTypes P ++ fn.resultTypes.toList).any (P.wideKeysFrom ·))) = true)
    (h_var : (s.vars.all (P.varReadable ·)) = true)
    (h_res : (fn.resultTypes.all (fun t => P.readableRec t && decide (t < P.types.size))) = true)
    (h_ifo : ((c.ifacesOut == fn.resultTypes.toList.any (P.ifacesRec ·))) = true)
    (h_lpo : ((c.loopsOut == fn.resultTypes.toList.any (P.loopsFrom ·))) = true)
    (h_pla : ((c.plainKeys == P.plainKeys)) = true)
    (h_sho : (c.shortTexts.isNone) = true)
    (h_hea : (P.stopsHeard) = true)
    (h_may : (P.mayEnter) = true)
    (h_lif : ((c.lifted == P.liftsFinal)) = true)
    (h_mak : ((P.make == some c.make)) = true)
    (h_dom : (c.domain.isEmpty) = true)
    (h_kin : (c.kinds.isEmpty) = true)
    (h_pin : ((c.pinned == c.pinnedBy)) = true)
    (h_vei : ((c.veiled == (fn.params.toList ++ s.plain.varTypes P ++ fn.resultTypes.toList).any (P.veiledRec ·))) = true)
    (h_vef : (c.veiledFits P fn.params.toList (fn.params.toList ++ s.plain.varTypes P ++ fn.resultTypes.toList)) = true) : joinedFacts P f fn s c = true := by
  have kk : (c.kinds == (if c.domain.isEmpty then [] else fn.params.toList.map fun t => match P.underlying t with | some (.int k) => some k | _ => none)) = true := by
    rw [if_pos h_dom, List.isEmpty_iff.1 h_kin]; rfl
  unfold joinedFacts
  simp only [Bool.and_eq_true]
  exact ⟨⟨⟨⟨⟨⟨⟨⟨⟨⟨⟨⟨⟨⟨⟨⟨⟨⟨⟨⟨⟨⟨⟨⟨⟨⟨⟨⟨⟨⟨⟨h_wf, h_lay⟩, h_maps0⟩, h_read⟩, h_tie⟩, h_st1⟩, h_st2⟩, h_kn1⟩, h_kn2⟩, h_inp⟩, h_unf⟩, h_rec⟩, h_nam⟩, h_map⟩, h_ifa⟩, h_mao⟩, h_loo⟩, h_wid⟩, h_var⟩, h_res⟩, h_ifo⟩, h_lpo⟩, h_pla⟩, h_sho⟩, h_hea⟩, h_may⟩, h_lif⟩, h_mak⟩, kk⟩, h_pin⟩, h_vei⟩, h_vef⟩
end Go.Proofs.Z
end
