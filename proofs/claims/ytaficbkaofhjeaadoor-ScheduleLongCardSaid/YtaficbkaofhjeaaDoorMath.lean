/- Plain mathematics of the schedule's laws: no program in sight. Conditions: none. -/
namespace Go.Proofs.YtaficbkaofhjeaaDoor

abbrev Ch := Int × Int
/-- Can a choice be in a schedule? -/
def validB (c : Ch) : Bool := if c.1 = -1 then c.2 == 0 else decide (0 ≤ c.1) && decide (c.1 < 16) && decide (0 ≤ c.2) && decide (c.2 < 6)
/-- Why a list is no schedule: 0, 4 or 2. -/
def checkE (l : List Ch) : Int := if 2000 < l.length then 4 else if l.any (fun c => !validB c) then 2 else 0
/-- How often another task goes on among the first k choices. -/
def sw (l : List Ch) : Nat → Nat
  | 0 => 0
  | k + 1 => sw l k + (if 0 < k ∧ (l.getD k (0, 0)).1 ≠ (l.getD (k - 1) (0, 0)).1 then 1 else 0)
theorem sw_le (l : List Ch) (k : Nat) : sw l k ≤ k := by
  induction k with
  | zero => exact Nat.le_refl _
  | succ k ih => unfold sw; split <;> omega

theorem checkE_take {l : List Ch} {k : Nat} (hk : k < l.length) (h : (l.take k).any (fun c => !validB c) = false) :
    (l.take (k + 1)).any (fun c => !validB c) = !validB l[k] := by
  rw [List.take_succ_eq_append_getElem hk, List.any_append, h]; simp

theorem any_of_take {α : Type} {p : α → Bool} {l : List α} {k : Nat} (h : (l.take k).any p = true) : l.any p = true := by
  rw [List.any_eq_true] at *
  obtain ⟨x, hx, hp⟩ := h
  exact ⟨x, List.mem_of_mem_take hx, hp⟩

theorem validB_iff (t d : Int) : validB (t, d) = true ↔ (t = -1 ∧ d = 0) ∨ (0 ≤ t ∧ t < 16 ∧ 0 ≤ d ∧ d < 6) := by
  unfold validB
  by_cases h : t = -1
  · subst h; simp
  · simp [h]; omega

theorem take_eq_step {α : Type} [DecidableEq α] {l m : List α} {k : Nat} (h : l.take k = m.take k) (hl : k < l.length) (hm : k < m.length) :
    (l[k] = m[k] → l.take (k + 1) = m.take (k + 1)) ∧ (l[k] ≠ m[k] → l ≠ m) := by
  constructor
  · intro e
    rw [List.take_succ_eq_append_getElem hl, List.take_succ_eq_append_getElem hm, h, e]
  · intro e he
    subst he
    exact e rfl

end Go.Proofs.YtaficbkaofhjeaaDoor
