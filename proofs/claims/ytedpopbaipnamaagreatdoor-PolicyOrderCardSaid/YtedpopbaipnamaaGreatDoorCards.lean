/-
  DERIVED. GIVEN WITH THE SEED: THE CARDS: each row of YtedpopbaipnamaaGreatDoorRows.lean that lists a variable, with what it lists TIED to the program's text (the seventh form; the later family's looks); each row that meets fmt, with fmt's text TOLD by the authors' own Lean function (tested against real Go, not proved from fmt's source: count such statements apart). THE CARD IS WHAT COUNTS. Prove the row's statement (the work); the ties are given (YtedpopbaipnamaaGreatDoorTie.lean); close each card by the builder's one call (the guide's Derived/Test/ToyasCard.lean, 'card_holds'). Laid BY PROGRAM, IN A SANDBOX (cutbox-door.mjs). By AI agents, Wed Nov 11 2026. No macro, syntax, notation, axiom, sorry.
-/
import Derived.Test.YtedpopbaipnamaaGreatDoorRows
import GoSem.ClaimSeven
namespace Go.Proofs.YtedpopbaipnamaaGreatDoor
namespace Rows

/-- THE TIED CARD OF 'nurserylaw55.PolicyOrder'. -/
def policyOrderCard : Claim7 := { stood := { row := policyOrderRow, standIns := [], harness := (true, "1e3d880926ed43c7cfadc49ce5f53ef47dcbd12fe16433595db78b22547fa025"), looks := true }, kinds := [], alts := [], laidByText := true, laidKinds := [.data, .data, .data], laidTests := true, laidLooks := .later }
def PolicyOrderCardSaid : Prop := Claim7.holds Tryz.pinned (.plain (OpenSpec.ofChange policyOrderSpec)) policyOrderCard

/-- THE SECOND FORM's CARD OF 'nurserylaw55.PolicyOrder'. -/
def policyOrderUptoCard : Claim7 := { stood := { row := policyOrderUptoRow, standIns := [], harness := (true, "1e3d880926ed43c7cfadc49ce5f53ef47dcbd12fe16433595db78b22547fa025"), looks := true }, kinds := [], alts := [], laidByText := true, laidKinds := [.data, .data, .data], laidTests := true, laidLooks := .later }
def PolicyOrderUptoCardSaid : Prop := Claim7.holds Tryz.pinned (.plain (OpenSpec.upto policyOrderSpec)) policyOrderUptoCard
end Rows
end Go.Proofs.YtedpopbaipnamaaGreatDoor
