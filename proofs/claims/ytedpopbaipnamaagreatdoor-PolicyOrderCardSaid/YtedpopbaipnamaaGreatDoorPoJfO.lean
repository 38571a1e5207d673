/- PolicyOrder's row: the closed cells that are reckoned over the functions that it comes to, one by one. Conditions: none. -/
import Derived.Test.YtedpopbaipnamaaGreatDoorRows
import Derived.JoinedOf
import Derived.KernelRfl
import Derived.Carry
namespace Go.Proofs.YtedpopbaipnamaaGreatDoor
open Go
theorem inPlace_order:(Rows.policyOrderRow.inPlace == Tryz.prog.inPlace 3)=true:=by kernel_rfl
theorem unfollowed_order:Tryz.prog.unfollowed 3=true:=by kernel_rfl
theorem named_order:(Rows.policyOrderRow.named == Tryz.prog.varsNamed 3)=true:=by kernel_rfl
theorem recurses_order:Tryz.prog.recurses 3=true:=by
 unfold Program.recurses
 rw [unfollowed_order,Bool.true_or]
end Go.Proofs.YtedpopbaipnamaaGreatDoor

namespace Go.Proofs.YtedpopbaipnamaaGreatDoor.ClaimPO
open Go
theorem closed:joinedFacts Tryz.prog 3 Tryz.f3 (OpenSpec.ofChange Rows.policyOrderSpec).bare Rows.policyOrderRow=true:=by
 unfold joinedFacts
 rw [inPlace_order,unfollowed_order,recurses_order,named_order]
 kernel_rfl
end Go.Proofs.YtedpopbaipnamaaGreatDoor.ClaimPO
