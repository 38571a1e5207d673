/-
  DERIVED. GIVEN WITH THE SEED: THE CARDS: each row of YtgdpjmckpjkmeaaGreatDoorRows.lean that lists a variable, with what it lists TIED to the program's text (the seventh form; the later family's looks); each row that meets fmt, with fmt's text TOLD by the authors' own Lean function (tested against real Go, not proved from fmt's source: count such statements apart). THE CARD IS WHAT COUNTS. Prove the row's statement (the work); the ties are given (YtgdpjmckpjkmeaaGreatDoorTie.lean); close each card by the builder's one call (the guide's Derived/Test/ToyasCard.lean, 'card_holds'). Laid BY PROGRAM, IN A SANDBOX (cutbox-door.mjs). By AI agents, Wed Nov 11 2026. No macro, syntax, notation, axiom, sorry.
-/
import Derived.Test.YtgdpjmckpjkmeaaGreatDoorRows
import GoSem.ClaimSeven
namespace Go.Proofs.YtgdpjmckpjkmeaaGreatDoor
namespace Rows

/-- THE TIED CARD OF 'nurserylaw55.PolicyBack'. -/
def policyBackCard : Claim7 := { stood := { row := policyBackRow, standIns := [], harness := (true, "128bff4c3b6df86cfbf57d855571c50ac89f4ec2561f4f526bc3886a6891a760"), looks := true }, kinds := [], alts := [], laidByText := true, laidKinds := [.data, .data, .data], laidTests := true, laidLooks := .later }
def PolicyBackCardSaid : Prop := Claim7.holds Tryz.pinned (.plain (OpenSpec.ofChange policyBackSpec)) policyBackCard

/-- THE TIED CARD OF 'nurserylaw55.PolicySorted'. -/
def policySortedCard : Claim7 := { stood := { row := policySortedRow, standIns := [], harness := (true, "128bff4c3b6df86cfbf57d855571c50ac89f4ec2561f4f526bc3886a6891a760"), looks := true }, kinds := [], alts := [], laidByText := true, laidKinds := [.data, .data, .data], laidTests := true, laidLooks := .later }
def PolicySortedCardSaid : Prop := Claim7.holds Tryz.pinned (.plain (OpenSpec.ofChange policySortedSpec)) policySortedCard

/-- THE TIED CARD OF 'nurserylaw55.PolicyRules'. -/
def policyRulesCard : Claim7 := { stood := { row := policyRulesRow, standIns := [], harness := (true, "128bff4c3b6df86cfbf57d855571c50ac89f4ec2561f4f526bc3886a6891a760"), looks := true }, kinds := [], alts := [], laidByText := true, laidKinds := [.data, .data, .data], laidTests := true, laidLooks := .later }
def PolicyRulesCardSaid : Prop := Claim7.holds Tryz.pinned (.plain (OpenSpec.ofChange policyRulesSpec)) policyRulesCard

/-- THE SECOND FORM's CARD OF 'nurserylaw55.PolicyBack'. -/
def policyBackUptoCard : Claim7 := { stood := { row := policyBackUptoRow, standIns := [], harness := (true, "128bff4c3b6df86cfbf57d855571c50ac89f4ec2561f4f526bc3886a6891a760"), looks := true }, kinds := [], alts := [], laidByText := true, laidKinds := [.data, .data, .data], laidTests := true, laidLooks := .later }
def PolicyBackUptoCardSaid : Prop := Claim7.holds Tryz.pinned (.plain (OpenSpec.upto policyBackSpec)) policyBackUptoCard

/-- THE SECOND FORM's CARD OF 'nurserylaw55.PolicySorted'. -/
def policySortedUptoCard : Claim7 := { stood := { row := policySortedUptoRow, standIns := [], harness := (true, "128bff4c3b6df86cfbf57d855571c50ac89f4ec2561f4f526bc3886a6891a760"), looks := true }, kinds := [], alts := [], laidByText := true, laidKinds := [.data, .data, .data], laidTests := true, laidLooks := .later }
def PolicySortedUptoCardSaid : Prop := Claim7.holds Tryz.pinned (.plain (OpenSpec.upto policySortedSpec)) policySortedUptoCard

/-- THE SECOND FORM's CARD OF 'nurserylaw55.PolicyRules'. -/
def policyRulesUptoCard : Claim7 := { stood := { row := policyRulesUptoRow, standIns := [], harness := (true, "128bff4c3b6df86cfbf57d855571c50ac89f4ec2561f4f526bc3886a6891a760"), looks := true }, kinds := [], alts := [], laidByText := true, laidKinds := [.data, .data, .data], laidTests := true, laidLooks := .later }
def PolicyRulesUptoCardSaid : Prop := Claim7.holds Tryz.pinned (.plain (OpenSpec.upto policyRulesSpec)) policyRulesUptoCard
end Rows
end Go.Proofs.YtgdpjmckpjkmeaaGreatDoor
