/- Plain mathematics of the encoding of lists. Conditions: none. -/
import Derived.Test.YtaficbkaofhjeaaDoorDigM
namespace Go.Proofs.YtaficbkaofhjeaaDoor

def inR (n : Int) : Bool := decide (-4611686018427387904 ≤ n) && decide (n ≤ 4611686018427387904)
theorem inR_iff (n : Int) : inR n = true ↔ -4611686018427387904 ≤ n ∧ n ≤ 4611686018427387904 := by simp [inR]
theorem inR_not (n : Int) : inR n = false ↔ ¬ (-4611686018427387904 ≤ n ∧ n ≤ 4611686018427387904) := by
  rw [← inR_iff]; simp
/-- The encodings of the elements, one behind the other. -/
def encs (l : List Int) : List UInt8 := l.flatMap encB
theorem encs_snoc (l : List Int) {k : Nat} (h : k < l.length) : encs (l.take (k + 1)) = encs (l.take k) ++ encB l[k] := by
  rw [List.take_succ_eq_append_getElem h, encs, List.flatMap_append]; simp [encs]
theorem dgB_len8 {m : Nat} (h : m ≤ 4611686018427387904) : (dgB m).length ≤ 8 := by
  rw [dgB, bts_len]; exact dg_len 8 m (by omega)
theorem encB_len {n : Int} (h : inR n = true) : (encB n).length ≤ 9 := by
  rw [inR_iff] at h
  unfold encB
  split
  · have := dgB_len8 (m := n.toNat) (by omega); simp only [List.length_cons]; omega
  · have := dgB_len8 (m := (-n - 1).toNat) (by omega); simp only [List.length_cons, List.length_map]; omega
theorem encs_len (l : List Int) (h : l.all inR = true) : (encs l).length ≤ 9 * l.length := by
  induction l with
  | nil => simp [encs]
  | cons n l ih =>
    simp only [List.all_cons, Bool.and_eq_true] at h
    have h1 := encB_len h.1
    have h2 := ih h.2
    simp only [encs, List.flatMap_cons, List.length_append, List.length_cons] at *
    omega
theorem all_snoc {l : List Int} {k : Nat} (hk : k < l.length) (h : (l.take k).all inR = true) : (l.take (k + 1)).all inR = inR l[k] := by
  rw [List.take_succ_eq_append_getElem hk, List.all_append, h]; simp
theorem all_of_take {l : List Int} {k : Nat} (h : (l.take k).all inR = false) : l.all inR = false := by
  rw [List.all_eq_false] at *
  obtain ⟨x, hx, hp⟩ := h
  exact ⟨x, List.mem_of_mem_take hx, hp⟩
/-- The error of the encoding of a list. -/
def listErr (l : List Int) : Int := if 20000 < l.length then 4 else if l.all inR then 0 else 2
/-- The text of the encoding of a list. -/
def listTxt (l : List Int) : List UInt8 := if listErr l = 0 then encs l ++ [1] else []

theorem listErr_long {l : List Int} (h : 20000 < l.length) : listErr l = 4 := by rw [listErr, if_pos h]
theorem listErr_bad {l : List Int} (h : ¬ 20000 < l.length) (hb : l.all inR = false) : listErr l = 2 := by rw [listErr, if_neg h, hb]; rfl
theorem listErr_ok {l : List Int} (h : ¬ 20000 < l.length) (hb : l.all inR = true) : listErr l = 0 := by rw [listErr, if_neg h, if_pos hb]
theorem listTxt_ok {l : List Int} (h : ¬ 20000 < l.length) (hb : l.all inR = true) : listTxt l = encs l ++ [1] := by rw [listTxt, if_pos (listErr_ok h hb)]
theorem listTxt_no {l : List Int} (h : listErr l ≠ 0) : listTxt l = [] := by rw [listTxt, if_neg h]

end Go.Proofs.YtaficbkaofhjeaaDoor
