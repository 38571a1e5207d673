/- PolicySorted's row: the closed cells that are reckoned over the functions that it comes to, one by one. Conditions: none. -/
import Derived.Test.YtgdpjmckpjkmeaaGreatDoorRows
import Derived.JoinedOf
import Derived.KernelRfl
namespace Go.Proofs.YtgdpjmckpjkmeaaGreatDoor
open Go
theorem inPlace_sorted : (Rows.policySortedRow.inPlace == Tryz.prog.inPlace 4) = true := by kernel_rfl
theorem unfollowed_sorted : Tryz.prog.unfollowed 4 = true := by kernel_rfl
theorem named_sorted : (Rows.policySortedRow.named == Tryz.prog.varsNamed 4) = true := by kernel_rfl
theorem recurses_sorted : Tryz.prog.recurses 4 = true := by
  unfold Program.recurses
  rw [unfollowed_sorted, Bool.true_or]
end Go.Proofs.YtgdpjmckpjkmeaaGreatDoor
