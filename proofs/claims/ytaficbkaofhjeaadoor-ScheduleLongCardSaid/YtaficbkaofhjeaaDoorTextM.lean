/- The text of a schedule, in plain Lean. No condition. -/
import Derived.Test.YtaficbkaofhjeaaDoorMath
import Derived.Lib.ItoaLen
import Derived.Lib.ItoaMem
import Derived.Lib.Join
namespace Go.Proofs.YtaficbkaofhjeaaDoor
open Go.RowKit

/-- The number lies within int64. -/
def in64 (n : Int) : Prop := -9223372036854775808 ≤ n ∧ n ≤ 9223372036854775807
/-- "clock" for the clock, else the number. -/
def whoB (t : Int) : List UInt8 := if t = -1 then [99, 108, 111, 99, 107] else Lib.itoa t
/-- "." and the number, unless it is 0. -/
def caseB (d : Int) : List UInt8 := if d = 0 then [] else 46 :: Lib.itoa d
def wordB (c : Ch) : List UInt8 := whoB c.1 ++ caseB c.2
def textB (l : List Ch) : List UInt8 := Lib.join (l.map wordB) [32]

theorem textB_nil : textB [] = [] := rfl
theorem joinTail_eq (sep : List UInt8) (r : List (List UInt8)) (y : List UInt8) : Lib.joinTail sep (r ++ [y]) = Lib.joinTail sep r ++ sep ++ y := by
  have h := Lib.joinTail_take_succ sep (r ++ [y]) r.length y (by simp)
  rw [List.take_of_length_le (by simp), List.take_append_of_le_length (Nat.le_refl _), List.take_length] at h
  exact h
theorem textB_one (c : Ch) : textB [c] = wordB c := Lib.join_one _ _
theorem textB_snoc {l : List Ch} (c : Ch) (h : l ≠ []) : textB (l ++ [c]) = textB l ++ ([32] ++ wordB c) := by
  match l, h with
  | a :: r, _ =>
    unfold textB
    rw [List.cons_append, List.map_cons, List.map_cons, List.map_append, Lib.join_cons, Lib.join_cons, List.map_cons, List.map_nil, joinTail_eq]
    simp
theorem whoB_len {t : Int} (h : in64 t) : (whoB t).length ≤ 21 := by
  unfold whoB
  split
  · simp
  · exact Lib.itoa_length_le t h.1 h.2
theorem caseB_len {d : Int} (h : in64 d) : (caseB d).length ≤ 22 := by
  unfold caseB
  split
  · simp
  · have := Lib.itoa_length_le d h.1 h.2; simp; omega
theorem wordB_len {c : Ch} (h : in64 c.1 ∧ in64 c.2) : (wordB c).length ≤ 43 := by
  have h1 := whoB_len h.1
  have h2 := caseB_len h.2
  unfold wordB; rw [List.length_append]; omega
theorem textB_len' : ∀ (n : Nat) {l : List Ch}, l.length = n → (∀ c ∈ l, in64 c.1 ∧ in64 c.2) → (textB l).length ≤ 44 * n
  | 0, l, hl, _ => by
    obtain rfl := List.length_eq_zero_iff.1 hl
    simp [textB_nil]
  | n + 1, l, hl, h => by
    have hne : l ≠ [] := fun e => by simp [e] at hl
    obtain ⟨r, c, rfl⟩ : ∃ r c, l = r ++ [c] := ⟨l.dropLast, l.getLast hne, (List.dropLast_concat_getLast hne).symm⟩
    have h1 := textB_len' n (l := r) (by simpa using hl) fun x hx => h x (by simp [hx])
    have h2 := wordB_len (h c (by simp))
    by_cases hr : r = []
    · subst hr; rw [List.nil_append, textB_one]; omega
    · rw [textB_snoc c hr]; simp; omega
theorem textB_len {l : List Ch} (h : ∀ c ∈ l, in64 c.1 ∧ in64 c.2) : (textB l).length ≤ 44 * l.length := textB_len' _ rfl h
/-- The decimal numeral of an integer, in the reference's three cases. -/
theorem itoa_low {n : Int} (h : n < -9) : Lib.itoa n = 45 :: (Lib.decDigits (n.natAbs / 10) ++ Lib.decDigits (n.natAbs % 10)) := by
  rw [Lib.itoa, if_pos (by omega), Lib.decDigits, dif_neg (by omega), Lib.decDigits_one (by omega : n.natAbs % 10 < 10)]
end Go.Proofs.YtaficbkaofhjeaaDoor
