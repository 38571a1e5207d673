/- Slicing a slice, as a rule for the walk. Conditions: the bounds fit. -/
import Derived.Test.YtaficbkaofhjeaaDoorBase
namespace Go.Proofs.YtaficbkaofhjeaaDoor
open Go.RowKit

/-- The address of s[l:] of a slice of elements of `size` cells. -/
def cutAddr (A : Option Addr) (cap l size : Nat) : Option Addr := if cap = l then A else A.map (·.add (l * size))
/-- s[l:] of a slice. -/
theorem run_slice_from {P : Program} {t e : TypeId} {size : Nat} (ht : P.underlying t = some (.slice e)) (hs : ∀ w, (sizeOf e).run P w = .ok size w) (A : Option Addr) {n cap l : Nat} (hl : l ≤ n) (k : IntKind) (w : World) :
    (Instr.slice t (.slice A n cap) (some (.int k (l : Int))) none none).run P w = .ok (.slice (cutAddr A cap l size) (n - l) (cap - l)) w := by
  have hb : (Instr.sliceBound (.int k (l : Int)) n .sliceB).run P w = .ok l w := by
    rw [run_sliceBound w k (l : Int) n .sliceB (by omega) (by omega)]; simp
  simp [Instr.slice, Instr.sliceBounds, Sem.run_bind, run_underlying ht, hb, hs, Result.andThen, cutAddr]
/-- s[l:h] of a slice. -/
theorem run_slice_part {P : Program} {t e : TypeId} {size : Nat} (ht : P.underlying t = some (.slice e)) (hs : ∀ w, (sizeOf e).run P w = .ok size w) (A : Option Addr) {n cap l h : Nat} (hl : l ≤ h) (hh : h ≤ cap) (k k' : IntKind) (w : World) :
    (Instr.slice t (.slice A n cap) (some (.int k (l : Int))) (some (.int k' (h : Int))) none).run P w = .ok (.slice (cutAddr A cap l size) (h - l) (cap - l)) w := by
  have hb : (Instr.sliceBound (.int k (l : Int)) h .sliceB).run P w = .ok l w := by
    rw [run_sliceBound w k (l : Int) h .sliceB (by omega) (by omega)]; simp
  have hc : (Instr.sliceBound (.int k' (h : Int)) cap .sliceAcap).run P w = .ok h w := by
    rw [run_sliceBound w k' (h : Int) cap .sliceAcap (by omega) (by omega)]; simp
  simp [Instr.slice, Instr.sliceBounds, Sem.run_bind, run_underlying ht, hb, hc, hs, Result.andThen, cutAddr]
/-- s[l:h:m] of a slice. -/
theorem run_slice_full {P : Program} {t e : TypeId} {size : Nat} (ht : P.underlying t = some (.slice e)) (hs : ∀ w, (sizeOf e).run P w = .ok size w) (A : Option Addr) {n cap l h m : Nat} (hl : l ≤ h) (hh : h ≤ m) (hm : m ≤ cap) (k k' k'' : IntKind) (w : World) :
    (Instr.slice t (.slice A n cap) (some (.int k (l : Int))) (some (.int k' (h : Int))) (some (.int k'' (m : Int)))).run P w = .ok (.slice (cutAddr A m l size) (h - l) (m - l)) w := by
  have hb : (Instr.sliceBound (.int k (l : Int)) h .slice3C).run P w = .ok l w := by
    rw [run_sliceBound w k (l : Int) h .slice3C (by omega) (by omega)]; simp
  have hc : (Instr.sliceBound (.int k' (h : Int)) m .slice3B).run P w = .ok h w := by
    rw [run_sliceBound w k' (h : Int) m .slice3B (by omega) (by omega)]; simp
  have hd : (Instr.sliceBound (.int k'' (m : Int)) cap .slice3Acap).run P w = .ok m w := by
    rw [run_sliceBound w k'' (m : Int) cap .slice3Acap (by omega) (by omega)]; simp
  simp [Instr.slice, Instr.sliceBounds, Sem.run_bind, run_underlying ht, hb, hc, hd, hs, Result.andThen, cutAddr]
end Go.Proofs.YtaficbkaofhjeaaDoor
