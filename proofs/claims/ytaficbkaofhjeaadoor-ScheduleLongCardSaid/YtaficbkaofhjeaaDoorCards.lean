/-
  DERIVED. GIVEN WITH THE SEED: THE CARDS: each row of YtaficbkaofhjeaaDoorRows.lean that lists a variable, with what it lists TIED to the program's text (the seventh form; the later family's looks); each row that meets fmt, with fmt's text TOLD by the authors' own Lean function (tested against real Go, not proved from fmt's source: count such statements apart). THE CARD IS WHAT COUNTS. Prove the row's statement (the work); the ties are given (YtaficbkaofhjeaaDoorTie.lean); close each card by the builder's one call (the guide's Derived/Test/ToyasCard.lean, 'card_holds'). Laid BY PROGRAM, IN A SANDBOX (cutbox-door.mjs). By AI agents, Wed Nov 11 2026. No macro, syntax, notation, axiom, sorry.
-/
import Derived.Test.YtaficbkaofhjeaaDoorRows
import GoSem.ClaimSeven
namespace Go.Proofs.YtaficbkaofhjeaaDoor
namespace Rows

/-- THE TIED CARD OF 'nurserylaw32.ScheduleCodes'. -/
def scheduleCodesCard : Claim7 := { stood := { row := scheduleCodesRow, standIns := [], harness := (true, "29e26c2b40ec6237e67ffbe238d368d6fcd60fd7199e812ce92a6d199e8a6979"), looks := false }, kinds := [], alts := [], laidByText := true, laidKinds := [.data, .data, .data], laidTests := true, laidLooks := .later }
def ScheduleCodesCardSaid : Prop := Claim7.holds Tryd.pinned (.plain (OpenSpec.ofChange scheduleCodesSpec)) scheduleCodesCard

/-- THE TIED CARD OF 'nurserylaw32.ScheduleRoundTrip'. -/
def scheduleRoundTripCard : Claim7 := { stood := { row := scheduleRoundTripRow, standIns := [], harness := (true, "29e26c2b40ec6237e67ffbe238d368d6fcd60fd7199e812ce92a6d199e8a6979"), looks := false }, kinds := [], alts := [], laidByText := true, laidKinds := [.data, .data, .data], laidTests := true, laidLooks := .later }
def ScheduleRoundTripCardSaid : Prop := Claim7.holds Tryd.pinned (.plain (OpenSpec.ofChange scheduleRoundTripSpec)) scheduleRoundTripCard

/-- THE TIED CARD OF 'nurserylaw32.ScheduleLong'. -/
def scheduleLongCard : Claim7 := { stood := { row := scheduleLongRow, standIns := [], harness := (true, "29e26c2b40ec6237e67ffbe238d368d6fcd60fd7199e812ce92a6d199e8a6979"), looks := false }, kinds := [], alts := [], laidByText := true, laidKinds := [.data, .data, .data], laidTests := true, laidLooks := .later }
def ScheduleLongCardSaid : Prop := Claim7.holds Tryd.pinned (.plain (OpenSpec.ofChange scheduleLongSpec)) scheduleLongCard

/-- THE SECOND FORM's CARD OF 'nurserylaw32.ScheduleCodes'. -/
def scheduleCodesUptoCard : Claim7 := { stood := { row := scheduleCodesUptoRow, standIns := [], harness := (true, "29e26c2b40ec6237e67ffbe238d368d6fcd60fd7199e812ce92a6d199e8a6979"), looks := false }, kinds := [], alts := [], laidByText := true, laidKinds := [.data, .data, .data], laidTests := true, laidLooks := .later }
def ScheduleCodesUptoCardSaid : Prop := Claim7.holds Tryd.pinned (.plain (OpenSpec.upto scheduleCodesSpec)) scheduleCodesUptoCard

/-- THE SECOND FORM's CARD OF 'nurserylaw32.ScheduleRoundTrip'. -/
def scheduleRoundTripUptoCard : Claim7 := { stood := { row := scheduleRoundTripUptoRow, standIns := [], harness := (true, "29e26c2b40ec6237e67ffbe238d368d6fcd60fd7199e812ce92a6d199e8a6979"), looks := false }, kinds := [], alts := [], laidByText := true, laidKinds := [.data, .data, .data], laidTests := true, laidLooks := .later }
def ScheduleRoundTripUptoCardSaid : Prop := Claim7.holds Tryd.pinned (.plain (OpenSpec.upto scheduleRoundTripSpec)) scheduleRoundTripUptoCard

/-- THE SECOND FORM's CARD OF 'nurserylaw32.ScheduleLong'. -/
def scheduleLongUptoCard : Claim7 := { stood := { row := scheduleLongUptoRow, standIns := [], harness := (true, "29e26c2b40ec6237e67ffbe238d368d6fcd60fd7199e812ce92a6d199e8a6979"), looks := false }, kinds := [], alts := [], laidByText := true, laidKinds := [.data, .data, .data], laidTests := true, laidLooks := .later }
def ScheduleLongUptoCardSaid : Prop := Claim7.holds Tryd.pinned (.plain (OpenSpec.upto scheduleLongSpec)) scheduleLongUptoCard
end Rows
end Go.Proofs.YtaficbkaofhjeaaDoor
