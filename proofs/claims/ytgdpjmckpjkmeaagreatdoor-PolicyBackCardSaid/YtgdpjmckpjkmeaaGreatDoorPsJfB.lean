/- PolicyBack's row: the closed cells that are reckoned over the functions that it comes to, one by one. Conditions: none. -/
import Derived.Test.YtgdpjmckpjkmeaaGreatDoorRows
import Derived.JoinedOf
import Derived.KernelRfl
namespace Go.Proofs.YtgdpjmckpjkmeaaGreatDoor
open Go
theorem inPlace_back : (Rows.policyBackRow.inPlace == Tryz.prog.inPlace 3) = true := by kernel_rfl
theorem unfollowed_back : Tryz.prog.unfollowed 3 = true := by kernel_rfl
theorem named_back : (Rows.policyBackRow.named == Tryz.prog.varsNamed 3) = true := by kernel_rfl
theorem recurses_back : Tryz.prog.recurses 3 = true := by
  unfold Program.recurses
  rw [unfollowed_back, Bool.true_or]
end Go.Proofs.YtgdpjmckpjkmeaaGreatDoor
