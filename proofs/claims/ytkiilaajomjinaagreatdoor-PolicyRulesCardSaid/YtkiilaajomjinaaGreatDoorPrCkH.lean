/- expr.check, walked. Conditions: the expression lies in memory. -/
import Derived.Test.YtkiilaajomjinaaGreatDoorPrOps
import Derived.RegionTactic
import Derived.BigRegion
import Derived.Deep.RegionWith
import Derived.Deep.RegionHeld3
import Derived.Deep.DeepCutAuto
namespace Go.Proofs.YtkiilaajomjinaaGreatDoor
open Go.RowKit
/-- chk1 of the parts. -/
def chkN (k o : Int) (n : ByteArray) (v : Int) (m : Nat) : Nat :=
  if k < 1 ∨ 4 < k then 8
  else if (k ≠ 1 ∧ v ≠ 0) ∨ (k ≠ 2 ∧ n.size ≠ 0) ∨ ((k = 1 ∨ k = 2) ∧ o ≠ 0) ∨ m ≠ argsN k then 1
  else if k = 1 ∧ (v < 0 ∨ 1099511627776 < v) then 2
  else if k = 2 ∧ nmB n = false then 5
  else if (k = 3 ∧ o ≠ 1 ∧ o ≠ 2) ∨ (k = 4 ∧ (o < 3 ∨ 15 < o)) then 8
  else 0
theorem chk1_N (e : Ex) : chk1 e = chkN e.kind e.op e.name e.val e.args.length := rfl
set_option maxRecDepth 100000 in
set_option maxHeartbeats 3200000 in
theorem check_out (k o : Int) (n : ByteArray) (v : Int) (A : Option Addr) (m c : Nat) (h : k < 1 ∨ 4 < k) (w : World) : Calls Tryz.prog 92 #[.agg (exC k o n v A m c).toArray] w (Ret (.int .i64 8) w) := by
  have hO := one_new w #[.int .i64 k, .int .i64 o, .string n, .int .i64 v, .slice A m c] 51
  unfold exC Ret
  by_cases h1 : k < 1
  · have e1 : decide (k < 1) = true := decide_eq_true h1
    go_enter Tryz.func92, Tryz.ntmps92
    go_wp2_with fail
    go_ret
    exact ⟨rfl, hO.below⟩
  · have e1 : decide (k < 1) = false := decide_eq_false h1
    have e2 : decide (4 < k) = true := decide_eq_true (by omega)
    go_enter Tryz.func92, Tryz.ntmps92
    go_wp2_with fail
    go_ret
    exact ⟨rfl, hO.below⟩
theorem bne_iff_ne_bytes (a b : ByteArray) : (a != b) = true ↔ a ≠ b := by
  unfold bne
  cases h : a == b with
  | true => simp [(MapKept.bytes_beq a b).1 h]
  | false => simp only [Bool.not_false, true_iff]; intro e; rw [(MapKept.bytes_beq a b).2 e] at h; cases h
theorem str_eq {n : ByteArray} (h : n.size = 0) : n = ⟨#[]⟩ := by
  obtain ⟨a⟩ := n
  have : a = #[] := Array.eq_empty_of_size_eq_zero h
  rw [this]
theorem str_ne {n : ByteArray} (h : ¬ n.size = 0) : (n != ⟨#[]⟩) = true := by
  rw [bne_iff_ne_bytes]
  intro e; rw [e] at h; exact h rfl
theorem str_nl {n : ByteArray} (h : ¬ n.size = 0) : ¬ n.toList = [] := by
  rw [ByteArray.toList_eq]
  intro e
  apply h
  have : n.data.toList.length = n.size := by simp
  rw [e] at this; exact this.symm
/-- Five cells of a block are set. -/
theorem set5_far (W : World) {B b : Nat} (hne : B ≠ b) (v0 v1 v2 v3 v4 : Value) (j : Nat) : (((((W.setCell ⟨B, 0, none⟩ v0).setCell ⟨B, 1, none⟩ v1).setCell ⟨B, 2, none⟩ v2).setCell ⟨B, 3, none⟩ v3).setCell ⟨B, 4, none⟩ v4).cell? ⟨b, j, none⟩ = W.cell? ⟨b, j, none⟩ := by
  rw [World.cell?_setCell_far _ _ _ _ hne, World.cell?_setCell_far _ _ _ _ hne, World.cell?_setCell_far _ _ _ _ hne, World.cell?_setCell_far _ _ _ _ hne, World.cell?_setCell_far _ _ _ _ hne]
theorem set5_size (W : World) (B : Nat) (v0 v1 v2 v3 v4 : Value) : (((((W.setCell ⟨B, 0, none⟩ v0).setCell ⟨B, 1, none⟩ v1).setCell ⟨B, 2, none⟩ v2).setCell ⟨B, 3, none⟩ v3).setCell ⟨B, 4, none⟩ v4).heap.size = W.heap.size := by simp
theorem set5_below {C : Nat} {w W : World} (h : Below C w W) {B : Nat} (hB : C ≤ B) (v0 v1 v2 v3 v4 : Value) : Below C w (((((W.setCell ⟨B, 0, none⟩ v0).setCell ⟨B, 1, none⟩ v1).setCell ⟨B, 2, none⟩ v2).setCell ⟨B, 3, none⟩ v3).setCell ⟨B, 4, none⟩ v4) :=
  ((((h.setCell (p := ⟨B, 0, none⟩) hB _).setCell (p := ⟨B, 1, none⟩) hB _).setCell (p := ⟨B, 2, none⟩) hB _).setCell (p := ⟨B, 3, none⟩) hB _).setCell (p := ⟨B, 4, none⟩) hB _
end Go.Proofs.YtkiilaajomjinaaGreatDoor
