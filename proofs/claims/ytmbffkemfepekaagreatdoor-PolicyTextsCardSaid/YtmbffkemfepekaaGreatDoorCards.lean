/-
  DERIVED. GIVEN WITH THE SEED: THE CARDS: each row of YtmbffkemfepekaaGreatDoorRows.lean that lists a variable, with what it lists TIED to the program's text (the seventh form; the later family's looks); each row that meets fmt, with fmt's text TOLD by the authors' own Lean function (tested against real Go, not proved from fmt's source: count such statements apart). THE CARD IS WHAT COUNTS. Prove the row's statement (the work); the ties are given (YtmbffkemfepekaaGreatDoorTie.lean); close each card by the builder's one call (the guide's Derived/Test/ToyasCard.lean, 'card_holds'). Laid BY PROGRAM, IN A SANDBOX (cutbox-door.mjs). By AI agents, Wed Nov 11 2026. No macro, syntax, notation, axiom, sorry.
-/
import Derived.Test.YtmbffkemfepekaaGreatDoorRows
import GoSem.ClaimSeven
namespace Go.Proofs.YtmbffkemfepekaaGreatDoor
namespace Rows

/-- THE TIED CARD OF 'nurserylaw55.PolicyTexts'. -/
def policyTextsCard : Claim7 := { stood := { row := policyTextsRow, standIns := [], harness := (true, "e54e7a9faf12dff5a05d4c53bfc95d9d2e568d9dec9640be5fd20fd6f466e6d0"), looks := true }, kinds := [], alts := [], laidByText := true, laidKinds := [.data, .data, .data], laidTests := true, laidLooks := .later }
def PolicyTextsCardSaid : Prop := Claim7.holds Tryz.pinned (.plain (OpenSpec.ofChange policyTextsSpec)) policyTextsCard

/-- THE SECOND FORM's CARD OF 'nurserylaw55.PolicyTexts'. -/
def policyTextsUptoCard : Claim7 := { stood := { row := policyTextsUptoRow, standIns := [], harness := (true, "e54e7a9faf12dff5a05d4c53bfc95d9d2e568d9dec9640be5fd20fd6f466e6d0"), looks := true }, kinds := [], alts := [], laidByText := true, laidKinds := [.data, .data, .data], laidTests := true, laidLooks := .later }
def PolicyTextsUptoCardSaid : Prop := Claim7.holds Tryz.pinned (.plain (OpenSpec.upto policyTextsSpec)) policyTextsUptoCard
end Rows
end Go.Proofs.YtmbffkemfepekaaGreatDoor
