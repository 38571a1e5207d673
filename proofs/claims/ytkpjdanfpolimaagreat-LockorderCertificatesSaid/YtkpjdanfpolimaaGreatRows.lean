/-
  No cell of these rows narrows 'for every input' (looked for: loops, veiled, ifaces, maps, wideKeys, modest, calm, conditions, laid).
  DERIVED. THE GIVEN ROWS OF THIS SEAT. 4 by the template 'for every input the law returns true; each argument reads behind the call as it read before'; 0 by the template 'total and deterministic' (their statements: YtkpjdanfpolimaaGreatTotals.lean).
  GIVEN WITH THE SEED: the statements are not yours to turn. If you find one false, say at which input.
  Laid BY PROGRAM, IN A SANDBOX (cutbox-rows.mjs): the forced cells as the released guide's own fill.sh prints them over the translation ac6764241b0ee13f… (all of the seat's roots in one cut). By AI agents, Wed Nov 11 2026. No macro, syntax, notation, axiom, sorry.
-/
import Derived.Test.YtkpjdanfpolimaaGreatChecked
import GoSem.Claim
import GoSem.ClaimJoined
import GoSem.ClaimMapViews
import Derived.JoinedTies
import Derived.KernelRfl
namespace Go.Proofs.YtkpjdanfpolimaaGreat
/- THE CELL 'sum', in the pinned program and in every row, IS THE sha256 OF THE DUMP (.gsa) THAT YtkpjdanfpolimaaGreatProg.lean LOADS. Nothing in Lean hashes anything: it is a label: what it is worth is what the hold of that sum in a sandbox is worth. -/
noncomputable def Tryz.pinned : Pinned := { name := "ytkpjdanfpolimaagreat", sum := "ac6764241b0ee13fdcad458e65b55daed76a4ce5442dfa75188a4d07ffafb833", checked := Tryz.checked }
namespace Rows
def none {H : Type} : Left H := { results := [], args := [] }

/-- 'nurserylaw47.LockorderCertificates': WHATEVER THE INPUT: true; the input reads as it did. -/
def lockorderCertificatesSpec : ChangeSpec := { name := "lockorderCertificates", fn := fun _ => fun
  | [d1, d2] => { results := [.lit (.bool true)], args := [d1, d2] }
  | _ => none }
def lockorderCertificatesRow : OpenClaim := { program := "ytkpjdanfpolimaagreat", sum := "ac6764241b0ee13fdcad458e65b55daed76a4ce5442dfa75188a4d07ffafb833", func := "nursery/nurserylaw47.LockorderCertificates", spec := "lockorderCertificates", unfollowed := true, recurses := true, apart := false }
def LockorderCertificatesSaid : Prop := lockorderCertificatesRow.holds Tryz.pinned (OpenSpec.ofChange lockorderCertificatesSpec)

/-- ITS FALSE NEIGHBOUR: 'it returns false'. Refute it at one input. -/
def lockorderCertificatesWrong : ChangeSpec := { name := "lockorderCertificates", fn := fun _ => fun
  | [d1, d2] => { results := [.lit (.bool false)], args := [d1, d2] }
  | _ => none }
def LockorderCertificatesWrongFalsely : Prop := lockorderCertificatesRow.holds Tryz.pinned (OpenSpec.ofChange lockorderCertificatesWrong)

/-- 'nurserylaw47.LockorderRanks': WHATEVER THE INPUT: true; the input reads as it did. -/
def lockorderRanksSpec : ChangeSpec := { name := "lockorderRanks", fn := fun _ => fun
  | [d1, d2] => { results := [.lit (.bool true)], args := [d1, d2] }
  | _ => none }
def lockorderRanksRow : OpenClaim := { program := "ytkpjdanfpolimaagreat", sum := "ac6764241b0ee13fdcad458e65b55daed76a4ce5442dfa75188a4d07ffafb833", func := "nursery/nurserylaw47.LockorderRanks", spec := "lockorderRanks", unfollowed := true, recurses := true, apart := false }
def LockorderRanksSaid : Prop := lockorderRanksRow.holds Tryz.pinned (OpenSpec.ofChange lockorderRanksSpec)

/-- ITS FALSE NEIGHBOUR: 'it returns false'. Refute it at one input. -/
def lockorderRanksWrong : ChangeSpec := { name := "lockorderRanks", fn := fun _ => fun
  | [d1, d2] => { results := [.lit (.bool false)], args := [d1, d2] }
  | _ => none }
def LockorderRanksWrongFalsely : Prop := lockorderRanksRow.holds Tryz.pinned (OpenSpec.ofChange lockorderRanksWrong)

/-- 'nurserylaw47.LockorderGraph': WHATEVER THE INPUT: true; the input reads as it did. -/
def lockorderGraphSpec : ChangeSpec := { name := "lockorderGraph", fn := fun _ => fun
  | [d1, d2] => { results := [.lit (.bool true)], args := [d1, d2] }
  | _ => none }
def lockorderGraphRow : OpenClaim := { program := "ytkpjdanfpolimaagreat", sum := "ac6764241b0ee13fdcad458e65b55daed76a4ce5442dfa75188a4d07ffafb833", func := "nursery/nurserylaw47.LockorderGraph", spec := "lockorderGraph", unfollowed := true, recurses := true, apart := false }
def LockorderGraphSaid : Prop := lockorderGraphRow.holds Tryz.pinned (OpenSpec.ofChange lockorderGraphSpec)

/-- ITS FALSE NEIGHBOUR: 'it returns false'. Refute it at one input. -/
def lockorderGraphWrong : ChangeSpec := { name := "lockorderGraph", fn := fun _ => fun
  | [d1, d2] => { results := [.lit (.bool false)], args := [d1, d2] }
  | _ => none }
def LockorderGraphWrongFalsely : Prop := lockorderGraphRow.holds Tryz.pinned (OpenSpec.ofChange lockorderGraphWrong)

/-- 'nurserylaw47.LockorderSuspects': WHATEVER THE INPUT: true; the input reads as it did. -/
def lockorderSuspectsSpec : ChangeSpec := { name := "lockorderSuspects", fn := fun _ => fun
  | [d] => { results := [.lit (.bool true)], args := [d] }
  | _ => none }
def lockorderSuspectsRow : OpenClaim := { program := "ytkpjdanfpolimaagreat", sum := "ac6764241b0ee13fdcad458e65b55daed76a4ce5442dfa75188a4d07ffafb833", func := "nursery/nurserylaw47.LockorderSuspects", spec := "lockorderSuspects", unfollowed := true, recurses := true, apart := false }
def LockorderSuspectsSaid : Prop := lockorderSuspectsRow.holds Tryz.pinned (OpenSpec.ofChange lockorderSuspectsSpec)

/-- ITS FALSE NEIGHBOUR: 'it returns false'. Refute it at one input. -/
def lockorderSuspectsWrong : ChangeSpec := { name := "lockorderSuspects", fn := fun _ => fun
  | [d] => { results := [.lit (.bool false)], args := [d] }
  | _ => none }
def LockorderSuspectsWrongFalsely : Prop := lockorderSuspectsRow.holds Tryz.pinned (OpenSpec.ofChange lockorderSuspectsWrong)

/- THE SECOND FORM. 'bulk': how many values and letters a reading holds, each counted each time it is reached (what is shared counts as often as it is met; a slice's spare places count too). A statement '..UptoSaid' is the law's where the arguments, and the package variables that the reading takes, are together of bulk at most 1048576: NARROWER than '..Said'. Prove '..Said' where nothing that the law and all that it calls make is longer than what came in: it says more and counts as full. Else prove '..UptoSaid'. A law counts once. -/
mutual
def uptoBulk {H : Type} : DataW H → Nat
  | .lit (.string bytes) => bytes.length + 1
  | .lit _ => 1
  | .nil => 1
  | .ptr d => uptoBulk d + 1
  | .slice elems spare => uptoBulkAll elems + uptoBulkAll spare + 1
  | .agg parts => uptoBulkAll parts + 1
  | .iface _ d => uptoBulk d + 1
  | .map entries => uptoBulkEntries entries + 1
  | .held _ => 1
def uptoBulkAll {H : Type} : List (DataW H) → Nat
  | [] => 0
  | d :: r => uptoBulk d + uptoBulkAll r
def uptoBulkEntries {H : Type} : List (Lit × DataW H) → Nat
  | [] => 0
  | x :: r => uptoBulkEntry x + uptoBulkEntries r
def uptoBulkEntry {H : Type} : Lit × DataW H → Nat
  | (.string bytes, d) => bytes.length + uptoBulk d + 1
  | (_, d) => uptoBulk d + 1
 end
def uptoSmall : (H : Type) → List (DataW H) → Bool := fun _ ds => decide (uptoBulkAll ds ≤ 1048576)
def OpenSpec.upto (s : _root_.Go.ChangeSpec) : _root_.Go.OpenSpec := { _root_.Go.OpenSpec.ofChange s with cond := some uptoSmall }

/-- 'nurserylaw47.LockorderCertificates', WHERE WHAT IT READS IS OF BULK AT MOST 1048576: true; the input reads as it did. -/
def lockorderCertificatesUptoRow : OpenClaim := { program := "ytkpjdanfpolimaagreat", sum := "ac6764241b0ee13fdcad458e65b55daed76a4ce5442dfa75188a4d07ffafb833", func := "nursery/nurserylaw47.LockorderCertificates", spec := "lockorderCertificates", unfollowed := true, recurses := true, apart := false, narrowed := true }
def LockorderCertificatesUptoSaid : Prop := lockorderCertificatesUptoRow.holds Tryz.pinned (OpenSpec.upto lockorderCertificatesSpec)

/-- 'nurserylaw47.LockorderRanks', WHERE WHAT IT READS IS OF BULK AT MOST 1048576: true; the input reads as it did. -/
def lockorderRanksUptoRow : OpenClaim := { program := "ytkpjdanfpolimaagreat", sum := "ac6764241b0ee13fdcad458e65b55daed76a4ce5442dfa75188a4d07ffafb833", func := "nursery/nurserylaw47.LockorderRanks", spec := "lockorderRanks", unfollowed := true, recurses := true, apart := false, narrowed := true }
def LockorderRanksUptoSaid : Prop := lockorderRanksUptoRow.holds Tryz.pinned (OpenSpec.upto lockorderRanksSpec)

/-- 'nurserylaw47.LockorderGraph', WHERE WHAT IT READS IS OF BULK AT MOST 1048576: true; the input reads as it did. -/
def lockorderGraphUptoRow : OpenClaim := { program := "ytkpjdanfpolimaagreat", sum := "ac6764241b0ee13fdcad458e65b55daed76a4ce5442dfa75188a4d07ffafb833", func := "nursery/nurserylaw47.LockorderGraph", spec := "lockorderGraph", unfollowed := true, recurses := true, apart := false, narrowed := true }
def LockorderGraphUptoSaid : Prop := lockorderGraphUptoRow.holds Tryz.pinned (OpenSpec.upto lockorderGraphSpec)

/-- 'nurserylaw47.LockorderSuspects', WHERE WHAT IT READS IS OF BULK AT MOST 1048576: true; the input reads as it did. -/
def lockorderSuspectsUptoRow : OpenClaim := { program := "ytkpjdanfpolimaagreat", sum := "ac6764241b0ee13fdcad458e65b55daed76a4ce5442dfa75188a4d07ffafb833", func := "nursery/nurserylaw47.LockorderSuspects", spec := "lockorderSuspects", unfollowed := true, recurses := true, apart := false, narrowed := true }
def LockorderSuspectsUptoSaid : Prop := lockorderSuspectsUptoRow.holds Tryz.pinned (OpenSpec.upto lockorderSuspectsSpec)

end Rows
end Go.Proofs.YtkpjdanfpolimaaGreat
