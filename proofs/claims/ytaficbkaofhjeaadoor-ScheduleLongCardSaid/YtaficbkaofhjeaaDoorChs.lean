/- Slices of choices and of integers as lists. Conditions: none. -/
import Derived.Test.YtaficbkaofhjeaaDoorBase
import Derived.Test.YtaficbkaofhjeaaDoorMath
namespace Go.Proofs.YtaficbkaofhjeaaDoor
open Go.RowKit

def chCells (l : List Ch) : List Value := l.flatMap fun c => [.int .i64 c.1, .int .i64 c.2]
theorem chCells_cons (c : Ch) (l : List Ch) : chCells (c :: l) = .int .i64 c.1 :: .int .i64 c.2 :: chCells l := by simp [chCells]
theorem chCells_append (l m : List Ch) : chCells (l ++ m) = chCells l ++ chCells m := by simp [chCells]
theorem chCells_len (l : List Ch) : (chCells l).length = l.length * 2 := by
  induction l with
  | nil => rfl
  | cons c l ih => rw [chCells_cons]; simp only [List.length_cons, ih]; omega
theorem chCells_fst (l : List Ch) (k : Nat) (hk : k < l.length) : (chCells l)[k * 2]? = some (.int .i64 l[k].1) := by
  induction l generalizing k with
  | nil => simp at hk
  | cons c l ih =>
    rw [chCells_cons]
    cases k with
    | zero => rfl
    | succ k => rw [show (k + 1) * 2 = k * 2 + 1 + 1 from by omega]; simpa using ih k (by simpa using hk)
theorem chCells_snd (l : List Ch) (k : Nat) (hk : k < l.length) : (chCells l)[k * 2 + 1]? = some (.int .i64 l[k].2) := by
  induction l generalizing k with
  | nil => simp at hk
  | cons c l ih =>
    rw [chCells_cons]
    cases k with
    | zero => rfl
    | succ k => rw [show (k + 1) * 2 + 1 = k * 2 + 1 + 1 + 1 from by omega]; simpa using ih k (by simpa using hk)
theorem chCells_one (l : List Ch) : ∀ u ∈ chCells l, u.oneCell' = true := by
  intro u hu
  simp only [chCells, List.mem_flatMap, List.mem_cons, List.not_mem_nil, or_false] at hu
  obtain ⟨c, _, rfl | rfl⟩ := hu <;> rfl

/-- The slice at A reads as the list l of choices, below block B. -/
def Chs (w : World) (B : Nat) (A : Option Addr) (l : List Ch) : Prop := Rd w B 2 A l.length (chCells l)
section
variable {w w' : World} {B : Nat} {A : Option Addr} {l : List Ch}
theorem Chs.at_ (h : Chs w B A l) {k : Nat} (hk : k < l.length) : ∃ b off : Nat, A = some ⟨b, off, none⟩ ∧ b < B ∧ w.cell? ⟨b, off + k * 2, none⟩ = some (.int .i64 l[k].1) ∧ w.cell? ⟨b, off + k * 2 + 1, none⟩ = some (.int .i64 l[k].2) := by
  obtain ⟨b, off, e, hb, hc⟩ := Rd.addr h (by omega)
  exact ⟨b, off, e, hb, hc _ _ (chCells_fst l k hk), hc _ _ (chCells_snd l k hk)⟩
theorem Chs.below (h : Chs w B A l) (hb : Below B w w') : Chs w' B A l := Rd.below h hb
theorem Chs.below' {C : Nat} (h : Chs w B A l) (hb : Below C w w') (hC : B ≤ C) : Chs w' B A l := Rd.below' h hb hC
end
end Go.Proofs.YtaficbkaofhjeaaDoor
