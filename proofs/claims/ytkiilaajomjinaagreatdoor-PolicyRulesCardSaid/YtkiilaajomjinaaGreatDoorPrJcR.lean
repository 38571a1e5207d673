/- PolicyRules' row: all its closed cells. Conditions: none. -/
import Derived.Test.YtkiilaajomjinaaGreatDoorPrJfR
import Derived.Test.YtkiilaajomjinaaGreatDoorRows
import Derived.Carry
namespace Go.Proofs.YtkiilaajomjinaaGreatDoor.ClaimPR
open Go
theorem closed : joinedFacts Tryz.prog 5 Tryz.f5 (OpenSpec.ofChange Rows.policyRulesSpec).bare Rows.policyRulesRow = true := by
  unfold joinedFacts
  rw [inPlace_rules, unfollowed_rules, recurses_rules, named_rules]
  kernel_rfl
end Go.Proofs.YtkiilaajomjinaaGreatDoor.ClaimPR
