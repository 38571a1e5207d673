/- PolicyTexts's row: the closed cells that are reckoned over the functions that it comes to, one by one. Conditions: none. -/
import Derived.Test.YtmbffkemfepekaaGreatDoorRows
import Derived.JoinedOf
import Derived.KernelRfl
import Derived.Carry
namespace Go.Proofs.YtmbffkemfepekaaGreatDoor
open Go
theorem inPlace_texts:(Rows.policyTextsRow.inPlace == Tryz.prog.inPlace 3)=true:=by kernel_rfl
theorem unfollowed_texts:Tryz.prog.unfollowed 3=true:=by kernel_rfl
theorem named_texts:(Rows.policyTextsRow.named == Tryz.prog.varsNamed 3)=true:=by kernel_rfl
theorem recurses_texts:Tryz.prog.recurses 3=true:=by
 unfold Program.recurses
 rw [unfollowed_texts,Bool.true_or]
end Go.Proofs.YtmbffkemfepekaaGreatDoor

namespace Go.Proofs.YtmbffkemfepekaaGreatDoor.ClaimPT
open Go
theorem closed:joinedFacts Tryz.prog 3 Tryz.f3 (OpenSpec.ofChange Rows.policyTextsSpec).bare Rows.policyTextsRow=true:=by
 unfold joinedFacts
 rw [inPlace_texts,unfollowed_texts,recurses_texts,named_texts]
 kernel_rfl
end Go.Proofs.YtmbffkemfepekaaGreatDoor.ClaimPT
