/- Plain mathematics of decoding the runs. Conditions: none. -/
import Derived.Test.YtaficbkaofhjeaaDoorRunM
namespace Go.Proofs.YtaficbkaofhjeaaDoor

/-- Whether a run can follow some choices. -/
def runOk (acc : List Ch) (n : Int) (c : Ch) : Bool := decide (1 ≤ n) && decide (n ≤ 2000 - (acc.length : Int)) && validB c && !(acc.getLast? == some c)
/-- The choices of numbers, behind some choices. -/
def decN : List Ch → List Int → Option (List Ch)
  | acc, n :: t :: d :: rest => if runOk acc n (t, d) then decN (acc ++ List.replicate n.toNat (t, d)) rest else none
  | acc, [] => some acc
  | _, _ => none
theorem decN_nil (acc : List Ch) : decN acc [] = some acc := rfl
theorem decN_step {acc : List Ch} {n t d : Int} {rest : List Int} (h : runOk acc n (t, d) = true) : decN acc (n :: t :: d :: rest) = decN (acc ++ List.replicate n.toNat (t, d)) rest := by rw [decN, if_pos h]
theorem decN_no {acc : List Ch} {n t d : Int} {rest : List Int} (h : runOk acc n (t, d) = false) : decN acc (n :: t :: d :: rest) = none := by rw [decN, h]; rfl
theorem runOk_len {acc : List Ch} {n : Int} {c : Ch} (h : runOk acc n c = true) : 1 ≤ n ∧ n ≤ 2000 - (acc.length : Int) := by
  simp only [runOk, Bool.and_eq_true, decide_eq_true_eq] at h; exact h.1.1
/-- What the decoders return for a string: choices and an error. -/
def decS (L : List UInt8) : List Ch × Int :=
  if (rdList L).2.2 ≠ 0 ∨ (rdList L).2.1 ≠ L.length ∨ (rdList L).1.length % 3 ≠ 0 then ([], 12) else
  match decN [] (rdList L).1 with
  | none => ([], 12)
  | some l => (l, 0)
theorem drop3 {ns : List Int} {k : Nat} (h : 3 * k + 3 ≤ ns.length) : ns.drop (3 * k) = ns[3 * k] :: ns[3 * k + 1] :: ns[3 * k + 2] :: ns.drop (3 * (k + 1)) := by
  rw [List.drop_eq_getElem_cons (by omega), List.drop_eq_getElem_cons (by omega), List.drop_eq_getElem_cons (by omega), show 3 * k + 1 + 1 + 1 = 3 * (k + 1) by omega]
end Go.Proofs.YtaficbkaofhjeaaDoor
