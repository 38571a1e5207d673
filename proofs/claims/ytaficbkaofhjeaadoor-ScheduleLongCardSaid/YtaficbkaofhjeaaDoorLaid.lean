/- The laid tables of the rows, and a world that holds them. Conditions: none. -/
import Derived.Test.YtaficbkaofhjeaaDoorRows
import Derived.Test.YtaficbkaofhjeaaDoorText
import Derived.Test.YtaficbkaofhjeaaDoorLaw
namespace Go.Proofs.YtaficbkaofhjeaaDoor
open Go.ChangeShapes Go.WideShapes Go.ChangeAt Go.RowKit

def laidL : List (String × DataW Unit) := [("math/bits.deBruijn32tab", Rows.laid_math_bits_deBruijn32tab), ("math/bits.deBruijn64tab", Rows.laid_math_bits_deBruijn64tab), ("internal/strconv.uint64pow10", Rows.laid_internal_strconv_uint64pow10)]
theorem own0 : ownKnob Tryd.prog.godebug = none := by kernel_rfl
/-- What the rows' list gives: the table of powers of ten lies where it was laid. -/
theorem powTab {W : World} (h : laidMetH Tryd.prog laidL W) : PowTab W := by
  have h' : laidMet Tryd.prog [("math/bits.deBruijn32tab", Rows.laid_math_bits_deBruijn32tab), ("math/bits.deBruijn64tab", Rows.laid_math_bits_deBruijn64tab), ("internal/strconv.uint64pow10", Lib.tabData .u64 Lib.pow10Tab)] W := h
  obtain ⟨ps, h1, _⟩ := h'
  obtain ⟨q, h2⟩ := laidVars_tail h1
  obtain ⟨q2, h3⟩ := laidVars_tail h2
  exact tabIs_of_vars gPow (show (Tryd.prog.globals[0]?).map (·.type) = some 104 by kernel_rfl) Tryd.underlying104 Tryd.underlying83 (by kernel_rfl) (by kernel_rfl) h3

/-- A WORLD FOR THE WITNESS: the settled one, the three tables holding what their initialisers lay. -/
def lay (w : World) (g : Nat) (k : IntKind) (zs : List Int) : World :=
  { w with heap := w.heap.modify g fun
      | .cells _ t frozen => .cells (zs.map fun z => Value.int k z).toArray t frozen
      | o => o }
noncomputable def laidWorld (os : Os) : World :=
  lay (lay (lay (World.holding Tryd.prog os ⟨#[], #[], []⟩) 0 .u64 Lib.pow10Tab)
    2 .u8 [0, 1, 28, 2, 29, 14, 24, 3, 30, 22, 20, 15, 25, 17, 4, 8, 31, 27, 13, 23, 21, 19, 16, 7, 26, 12, 18, 6, 11, 5, 10, 9]) 3 .u8 [0, 1, 56, 2, 57, 49, 28, 3, 61, 58, 42, 50, 38, 29, 17, 4, 62, 47, 59, 36, 45, 43, 51, 22, 53, 39, 33, 30, 24, 18, 12, 5, 63, 55, 48, 27, 60, 41, 37, 16, 46, 35, 44, 21, 52, 32, 23, 11, 54, 26, 40, 15, 34, 20, 31, 10, 25, 14, 19, 9, 13, 8, 7, 6]
end Go.Proofs.YtaficbkaofhjeaaDoor
