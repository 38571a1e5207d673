/- Plain mathematics of the runs of equal choices. Conditions: none. -/
import Derived.Test.YtaficbkaofhjeaaDoorMath
import Derived.Test.YtaficbkaofhjeaaDoorRdM
namespace Go.Proofs.YtaficbkaofhjeaaDoor

/-- How many elements at the head equal c. -/
def lead (c : Ch) : List Ch → Nat
  | [] => 0
  | x :: l => if x = c then 1 + lead c l else 0
theorem lead_le (c : Ch) (l : List Ch) : lead c l ≤ l.length := by
  induction l with
  | nil => exact Nat.le_refl _
  | cons x l ih => unfold lead; split <;> simp <;> omega
theorem lead_lt {c : Ch} {l : List Ch} {j : Nat} (h : j < lead c l) : l[j]? = some c := by
  induction l generalizing j with
  | nil => simp [lead] at h
  | cons x l ih =>
    unfold lead at h
    split at h
    · rename_i hx
      cases j with
      | zero => simp [hx]
      | succ j => simpa using ih (by omega)
    · omega
theorem lead_stop (c : Ch) (l : List Ch) : l[lead c l]? ≠ some c := by
  induction l with
  | nil => simp
  | cons x l ih =>
    unfold lead
    split
    · rw [Nat.add_comm]; simpa using ih
    · rename_i hx; simpa using hx
theorem lead_pos (c : Ch) (l : List Ch) : 1 ≤ lead c (c :: l) := by unfold lead; simp
/-- The runs of equal choices: lengths and choices. -/
def rle : List Ch → List (Nat × Ch)
  | [] => []
  | c :: l => (lead c (c :: l), c) :: rle ((c :: l).drop (lead c (c :: l)))
termination_by l => l.length
decreasing_by have := lead_pos c l; simp; omega
theorem rle_cons (c : Ch) (l : List Ch) : rle (c :: l) = (lead c (c :: l), c) :: rle ((c :: l).drop (lead c (c :: l))) := by rw [rle]
theorem rle_nil : rle [] = [] := by rw [rle]
/-- The numbers of runs. -/
def nums (r : List (Nat × Ch)) : List Int := r.flatMap fun x => [(x.1 : Int), x.2.1, x.2.2]
theorem nums_nil : nums [] = [] := rfl
theorem nums_append (r s : List (Nat × Ch)) : nums (r ++ s) = nums r ++ nums s := by simp [nums]
theorem nums_one (n : Nat) (c : Ch) : nums [(n, c)] = [(n : Int), c.1, c.2] := rfl
theorem nums_len (r : List (Nat × Ch)) : (nums r).length = 3 * r.length := by
  induction r with
  | nil => rfl
  | cons x r ih => simp only [nums, List.flatMap_cons, List.length_append, List.length_cons, List.length_nil] at *; omega
theorem rle_len (l : List Ch) : (rle l).length ≤ l.length := by
  induction h : l.length using Nat.strongRecOn generalizing l with
  | _ n ih =>
    subst h
    cases l with
    | nil => rw [rle_nil]; exact Nat.le_refl _
    | cons c l =>
      rw [rle_cons]
      have h1 := lead_pos c l
      have h2 := ih ((c :: l).drop (lead c (c :: l))).length (by simp; omega) _ rfl
      have h3 : ((c :: l).drop (lead c (c :: l))).length = l.length + 1 - lead c (c :: l) := by simp
      simp only [List.length_cons]
      omega
end Go.Proofs.YtaficbkaofhjeaaDoor
