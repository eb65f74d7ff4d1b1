/-
  DERIVED. GIVEN WITH THE SEED: THE CARDS: each row of YtmlaokgdomfmgaaGreatDoorRows.lean that lists a variable, with what it lists TIED to the program's text (the seventh form; the later family's looks); each row that meets fmt, with fmt's text TOLD by the authors' own Lean function (tested against real Go, not proved from fmt's source: count such statements apart). THE CARD IS WHAT COUNTS. Prove the row's statement (the work); the ties are given (YtmlaokgdomfmgaaGreatDoorTie.lean); close each card by the builder's one call (the guide's Derived/Test/ToyasCard.lean, 'card_holds'). Laid BY PROGRAM, IN A SANDBOX (cutbox-door.mjs). By AI agents, Wed Nov 11 2026. No macro, syntax, notation, axiom, sorry.
-/
import Derived.Test.YtmlaokgdomfmgaaGreatDoorRows
import GoSem.ClaimSeven
namespace Go.Proofs.YtmlaokgdomfmgaaGreatDoor
namespace Rows

/-- THE TIED CARD OF 'gossamerlaw24.DeskShows'. -/
def deskShowsCard : Claim7 := { stood := { row := deskShowsRow, standIns := [], harness := (true, "e1bc7262c49f8d73cd4c01980d1c7c16d6874c8fd42151b64429784552f00e1d"), looks := true }, kinds := [], alts := [], laidByText := true, laidKinds := [.pinned, .data, .sentinel, .sentinel, .data, .data, .data, .data, .listed, .handle], laidTests := true, laidLooks := .later }
def DeskShowsCardSaid : Prop := Claim7.holds Tryz.pinned (.plain (OpenSpec.ofChange deskShowsSpec)) deskShowsCard

/-- THE TIED CARD OF 'gossamerlaw24.DeskRuns'. -/
def deskRunsCard : Claim7 := { stood := { row := deskRunsRow, standIns := [], harness := (true, "e1bc7262c49f8d73cd4c01980d1c7c16d6874c8fd42151b64429784552f00e1d"), looks := true }, kinds := [], alts := [], laidByText := true, laidKinds := [.pinned, .data, .sentinel, .sentinel, .data, .data, .data, .data, .listed, .handle], laidTests := true, laidLooks := .later }
def DeskRunsCardSaid : Prop := Claim7.holds Tryz.pinned (.plain (OpenSpec.ofChange deskRunsSpec)) deskRunsCard

/-- THE TIED CARD OF 'gossamerlaw24.DeskLimits'. -/
def deskLimitsCard : Claim7 := { stood := { row := deskLimitsRow, standIns := [], harness := (true, "e1bc7262c49f8d73cd4c01980d1c7c16d6874c8fd42151b64429784552f00e1d"), looks := true }, kinds := [], alts := [], laidByText := true, laidKinds := [.pinned, .data, .sentinel, .sentinel, .data, .data, .data, .data, .listed, .handle], laidTests := true, laidLooks := .later }
def DeskLimitsCardSaid : Prop := Claim7.holds Tryz.pinned (.plain (OpenSpec.ofChange deskLimitsSpec)) deskLimitsCard

/-- THE TIED CARD OF 'gossamerlaw24.DeskNone'. -/
def deskNoneCard : Claim7 := { stood := { row := deskNoneRow, standIns := [], harness := (true, "e1bc7262c49f8d73cd4c01980d1c7c16d6874c8fd42151b64429784552f00e1d"), looks := true }, kinds := [], alts := [], laidByText := true, laidKinds := [.pinned, .data, .sentinel, .sentinel, .data, .data, .data, .data, .listed, .handle], laidTests := true, laidLooks := .later }
def DeskNoneCardSaid : Prop := Claim7.holds Tryz.pinned (.plain (OpenSpec.ofChange deskNoneSpec)) deskNoneCard

/-- THE SECOND FORM's CARD OF 'gossamerlaw24.DeskShows'. -/
def deskShowsUptoCard : Claim7 := { stood := { row := deskShowsUptoRow, standIns := [], harness := (true, "e1bc7262c49f8d73cd4c01980d1c7c16d6874c8fd42151b64429784552f00e1d"), looks := true }, kinds := [], alts := [], laidByText := true, laidKinds := [.pinned, .data, .sentinel, .sentinel, .data, .data, .data, .data, .listed, .handle], laidTests := true, laidLooks := .later }
def DeskShowsUptoCardSaid : Prop := Claim7.holds Tryz.pinned (.plain (OpenSpec.upto deskShowsSpec)) deskShowsUptoCard

/-- THE SECOND FORM's CARD OF 'gossamerlaw24.DeskRuns'. -/
def deskRunsUptoCard : Claim7 := { stood := { row := deskRunsUptoRow, standIns := [], harness := (true, "e1bc7262c49f8d73cd4c01980d1c7c16d6874c8fd42151b64429784552f00e1d"), looks := true }, kinds := [], alts := [], laidByText := true, laidKinds := [.pinned, .data, .sentinel, .sentinel, .data, .data, .data, .data, .listed, .handle], laidTests := true, laidLooks := .later }
def DeskRunsUptoCardSaid : Prop := Claim7.holds Tryz.pinned (.plain (OpenSpec.upto deskRunsSpec)) deskRunsUptoCard

/-- THE SECOND FORM's CARD OF 'gossamerlaw24.DeskLimits'. -/
def deskLimitsUptoCard : Claim7 := { stood := { row := deskLimitsUptoRow, standIns := [], harness := (true, "e1bc7262c49f8d73cd4c01980d1c7c16d6874c8fd42151b64429784552f00e1d"), looks := true }, kinds := [], alts := [], laidByText := true, laidKinds := [.pinned, .data, .sentinel, .sentinel, .data, .data, .data, .data, .listed, .handle], laidTests := true, laidLooks := .later }
def DeskLimitsUptoCardSaid : Prop := Claim7.holds Tryz.pinned (.plain (OpenSpec.upto deskLimitsSpec)) deskLimitsUptoCard

/-- THE SECOND FORM's CARD OF 'gossamerlaw24.DeskNone'. -/
def deskNoneUptoCard : Claim7 := { stood := { row := deskNoneUptoRow, standIns := [], harness := (true, "e1bc7262c49f8d73cd4c01980d1c7c16d6874c8fd42151b64429784552f00e1d"), looks := true }, kinds := [], alts := [], laidByText := true, laidKinds := [.pinned, .data, .sentinel, .sentinel, .data, .data, .data, .data, .listed, .handle], laidTests := true, laidLooks := .later }
def DeskNoneUptoCardSaid : Prop := Claim7.holds Tryz.pinned (.plain (OpenSpec.upto deskNoneSpec)) deskNoneUptoCard
end Rows
end Go.Proofs.YtmlaokgdomfmgaaGreatDoor
