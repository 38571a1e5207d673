/- PolicyRules's row: the closed cells that are reckoned over the functions that it comes to, one by one. Conditions: none. -/
import Derived.Test.YtkiilaajomjinaaGreatDoorRows
import Derived.JoinedOf
import Derived.KernelRfl
namespace Go.Proofs.YtkiilaajomjinaaGreatDoor
open Go
theorem inPlace_rules : (Rows.policyRulesRow.inPlace == Tryz.prog.inPlace 5) = true := by kernel_rfl
theorem unfollowed_rules : Tryz.prog.unfollowed 5 = true := by kernel_rfl
theorem named_rules : (Rows.policyRulesRow.named == Tryz.prog.varsNamed 5) = true := by kernel_rfl
theorem recurses_rules : Tryz.prog.recurses 5 = true := by
  unfold Program.recurses
  rw [unfollowed_rules, Bool.true_or]
end Go.Proofs.YtkiilaajomjinaaGreatDoor
