/-
  DERIVED. GIVEN WITH THE SEED: THE CARDS: each row of YtkiilaajomjinaaGreatDoorRows.lean that lists a variable, with what it lists TIED to the program's text (the seventh form; the later family's looks); each row that meets fmt, with fmt's text TOLD by the authors' own Lean function (tested against real Go, not proved from fmt's source: count such statements apart). THE CARD IS WHAT COUNTS. Prove the row's statement (the work); the ties are given (YtkiilaajomjinaaGreatDoorTie.lean); close each card by the builder's one call (the guide's Derived/Test/ToyasCard.lean, 'card_holds'). Laid BY PROGRAM, IN A SANDBOX (cutbox-door.mjs). By AI agents, Wed Nov 11 2026. No macro, syntax, notation, axiom, sorry.
-/
import Derived.Test.YtkiilaajomjinaaGreatDoorRows
import GoSem.ClaimSeven
namespace Go.Proofs.YtkiilaajomjinaaGreatDoor
namespace Rows

/-- THE TIED CARD OF 'nurserylaw55.PolicyTexts'. -/
def policyTextsCard : Claim7 := { stood := { row := policyTextsRow, standIns := [], harness := (true, "c2d4ab848a2a9609a7617819aa8df6eb26f36d90a4ba40c42af54f9bdf81b26c"), looks := true }, kinds := [], alts := [], laidByText := true, laidKinds := [.data, .data, .data], laidTests := true, laidLooks := .later }
def PolicyTextsCardSaid : Prop := Claim7.holds Tryz.pinned (.plain (OpenSpec.ofChange policyTextsSpec)) policyTextsCard

/-- THE TIED CARD OF 'nurserylaw55.PolicyOrder'. -/
def policyOrderCard : Claim7 := { stood := { row := policyOrderRow, standIns := [], harness := (true, "c2d4ab848a2a9609a7617819aa8df6eb26f36d90a4ba40c42af54f9bdf81b26c"), looks := true }, kinds := [], alts := [], laidByText := true, laidKinds := [.data, .data, .data], laidTests := true, laidLooks := .later }
def PolicyOrderCardSaid : Prop := Claim7.holds Tryz.pinned (.plain (OpenSpec.ofChange policyOrderSpec)) policyOrderCard

/-- THE TIED CARD OF 'nurserylaw55.PolicyRules'. -/
def policyRulesCard : Claim7 := { stood := { row := policyRulesRow, standIns := [], harness := (true, "c2d4ab848a2a9609a7617819aa8df6eb26f36d90a4ba40c42af54f9bdf81b26c"), looks := true }, kinds := [], alts := [], laidByText := true, laidKinds := [.data, .data, .data], laidTests := true, laidLooks := .later }
def PolicyRulesCardSaid : Prop := Claim7.holds Tryz.pinned (.plain (OpenSpec.ofChange policyRulesSpec)) policyRulesCard

/-- THE SECOND FORM's CARD OF 'nurserylaw55.PolicyTexts'. -/
def policyTextsUptoCard : Claim7 := { stood := { row := policyTextsUptoRow, standIns := [], harness := (true, "c2d4ab848a2a9609a7617819aa8df6eb26f36d90a4ba40c42af54f9bdf81b26c"), looks := true }, kinds := [], alts := [], laidByText := true, laidKinds := [.data, .data, .data], laidTests := true, laidLooks := .later }
def PolicyTextsUptoCardSaid : Prop := Claim7.holds Tryz.pinned (.plain (OpenSpec.upto policyTextsSpec)) policyTextsUptoCard

/-- THE SECOND FORM's CARD OF 'nurserylaw55.PolicyOrder'. -/
def policyOrderUptoCard : Claim7 := { stood := { row := policyOrderUptoRow, standIns := [], harness := (true, "c2d4ab848a2a9609a7617819aa8df6eb26f36d90a4ba40c42af54f9bdf81b26c"), looks := true }, kinds := [], alts := [], laidByText := true, laidKinds := [.data, .data, .data], laidTests := true, laidLooks := .later }
def PolicyOrderUptoCardSaid : Prop := Claim7.holds Tryz.pinned (.plain (OpenSpec.upto policyOrderSpec)) policyOrderUptoCard

/-- THE SECOND FORM's CARD OF 'nurserylaw55.PolicyRules'. -/
def policyRulesUptoCard : Claim7 := { stood := { row := policyRulesUptoRow, standIns := [], harness := (true, "c2d4ab848a2a9609a7617819aa8df6eb26f36d90a4ba40c42af54f9bdf81b26c"), looks := true }, kinds := [], alts := [], laidByText := true, laidKinds := [.data, .data, .data], laidTests := true, laidLooks := .later }
def PolicyRulesUptoCardSaid : Prop := Claim7.holds Tryz.pinned (.plain (OpenSpec.upto policyRulesSpec)) policyRulesUptoCard
end Rows
end Go.Proofs.YtkiilaajomjinaaGreatDoor
