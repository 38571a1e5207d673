/- codec.reader: fail and next, walked. Conditions: the reader lies in one block. -/
import Derived.Test.YtaficbkaofhjeaaDoorRefRdL
import Derived.Deep.QuietTactic
import Derived.BigQuiet
namespace Go.Proofs.YtaficbkaofhjeaaDoor
open Go.RowKit

/-- Block b is a reader of s at place a with the error e. -/
def Rdr (w : World) (b : Nat) (s : ByteArray) (a : Nat) (e : Int) : Prop := w.heap[b]? = some (.cells #[.string s, .int .i64 (a : Int), .int .i64 e] 72 (0, 0))
section
variable {w w' : World} {b : Nat} {s : ByteArray} {a : Nat} {e : Int}
theorem Rdr.lt (h : Rdr w b s a e) : b < w.heap.size := lt_of_block h
theorem Rdr.cell (h : Rdr w b s a e) (i : Nat) : w.cell? ⟨b, i, none⟩ = (#[Value.string s, .int .i64 (a : Int), .int .i64 e])[i]? := by
  unfold Rdr at h; simp [World.cell?, h]
theorem Rdr.frozen (h : Rdr w b s a e) (i : Nat) : w.frozen? ⟨b, i, none⟩ = false := by
  unfold Rdr at h; simp [World.frozen?, h]
theorem Rdr.drewN (h : Rdr w b s a e) (n : Nat) : Rdr (w.drewN n) b s a e := h
theorem Rdr.setAt (h : Rdr w b s a e) (k : Nat) : Rdr (w.setCell ⟨b, 1, none⟩ (.int .i64 (k : Int))) b s k e := by
  unfold Rdr at h ⊢
  simp [World.setCell, Array.getElem?_modify, h]
theorem Rdr.setErr (h : Rdr w b s a e) (k : Int) : Rdr (w.setCell ⟨b, 2, none⟩ (.int .i64 k)) b s a k := by
  unfold Rdr at h ⊢
  simp [World.setCell, Array.getElem?_modify, h]
theorem Rdr.below {B : Nat} (h : Rdr w b s a e) (hb : Below B w w') (hB : b < B) : Rdr w' b s a e := (hb.block b hB).trans h
theorem only_set (w : World) (b i : Nat) (v : Value) : w.grownBy (w.setCell ⟨b, i, none⟩ v) (some b) :=
  ⟨rfl, rfl, rfl, by simp [World.setCell], fun k _ hk => Below.heap_setCell _ _ _ k (fun e => hk (by rw [e]))⟩
theorem only_refl (w : World) (b : Nat) : w.grownBy w (some b) := World.grownBy.refl w _
theorem only_drewN (w : World) (n b : Nat) : w.grownBy (w.drewN n) (some b) := ⟨rfl, rfl, rfl, Nat.le_refl _, fun _ _ _ => rfl⟩
theorem only_below {w w' : World} {B : Nat} (h : Below B w w') (hB : w.heap.size ≤ B) (b : Nat) : w.grownBy w' (some b) := ⟨h.os, h.tape, h.output, h.size, fun k hk _ => h.block k (Nat.lt_of_lt_of_le hk hB)⟩
end

set_option maxHeartbeats 400000 in
theorem fail_first (b : Nat) (s : ByteArray) (a : Nat) (k : Int) (w : World) (h : Rdr w b s a 0) :
    Calls Tryd.prog 52 #[.pointer (some ⟨b, 0, none⟩), .int .i64 k] w fun e w' => e = .returned (.tuple #[]) ∧ Rdr w' b s a k ∧ w.grownBy w' (some b) := by
  have h2 := h.cell 2
  have f2 := h.frozen 2
  go_enter Tryd.func52, Tryd.ntmps52
  go_wp2
  go_end0
  exact ⟨rfl, h.setErr k, only_set _ _ _ _⟩
set_option maxHeartbeats 400000 in
theorem fail_again (b : Nat) (s : ByteArray) (a : Nat) (k e0 : Int) (he : e0 ≠ 0) (w : World) (h : Rdr w b s a e0) :
    Calls Tryd.prog 52 #[.pointer (some ⟨b, 0, none⟩), .int .i64 k] w fun e w' => e = .returned (.tuple #[]) ∧ w = w' := by
  have h2 := h.cell 2
  have f2 := h.frozen 2
  have he' : (e0 == 0) = false := by simpa using he
  go_enter Tryd.func52, Tryd.ntmps52
  go_wp2
  go_end0
  exact ⟨rfl, rfl⟩

/-- A byte is returned, and the reader stands at place a' with the error e'; only it has changed. -/
def RetN (v : UInt8) (b : Nat) (s : ByteArray) (a' : Nat) (e' : Int) (w : World) : Ending → World → Prop := fun e w' => e = .returned (.int .u8 (v.toNat : Int)) ∧ Rdr w' b s a' e' ∧ w.grownBy w' (some b)

set_option maxRecDepth 100000 in
set_option maxHeartbeats 800000 in
theorem next_yes (b : Nat) (s : ByteArray) (a : Nat) (e0 : Int) (hs : s.size < 4611686018427387904) (ha : a < s.size) (w : World) (h : Rdr w b s a e0) :
    Calls Tryd.prog 53 #[.pointer (some ⟨b, 0, none⟩)] w (RetN s[a] b s (a + 1) e0 w) := by
  have h0 := h.cell 0
  have h1 := h.cell 1
  have f1 := h.frozen 1
  simp at h0 h1
  go_enter Tryd.func53, Tryd.ntmps53
  go_wp2
  go_quiet (fail)
  go_wp2
  go_quiet (fail)
  go_wp2
  go_ret
  exact ⟨rfl, (h.drewN _).setAt (a + 1), World.grownBy.trans (only_drewN _ _ _) (only_set _ _ _ _)⟩

set_option maxRecDepth 100000 in
set_option maxHeartbeats 800000 in
theorem next_no (b : Nat) (s : ByteArray) (a : Nat) (hs : s.size < 4611686018427387904) (ha : a = s.size) (w : World) (hrd : Rdr w b s a 0) :
    Calls Tryd.prog 53 #[.pointer (some ⟨b, 0, none⟩)] w (RetN 0 b s a 11 w) := by
  have h0 := hrd.cell 0
  have h1 := hrd.cell 1
  simp at h0 h1
  have hle : s.size ≤ a := by omega
  have hal : a < 4611686018427387904 := by omega
  clear ha
  go_enter Tryd.func53, Tryd.ntmps53
  go_wp2
  go_quiet (fail)
  go_wp2_with fail
  refine (fail_first b s a 11 _ (hrd.drewN _)).mono ?_
  rintro e w1 ⟨rfl, hr, hg⟩
  go_wp2
  go_ret
  exact ⟨rfl, hr, World.grownBy.trans (only_drewN _ _ _) hg⟩

set_option maxRecDepth 100000 in
set_option maxHeartbeats 800000 in
theorem next_past (b : Nat) (s : ByteArray) (a : Nat) (e0 : Int) (he : e0 ≠ 0) (hs : s.size < 4611686018427387904) (ha : a = s.size) (w : World) (hrd : Rdr w b s a e0) :
    Calls Tryd.prog 53 #[.pointer (some ⟨b, 0, none⟩)] w (RetN 0 b s a e0 w) := by
  have h0 := hrd.cell 0
  have h1 := hrd.cell 1
  simp at h0 h1
  have HE := Lib.hid he
  have hle : s.size ≤ a := by omega
  have hal : a < 4611686018427387904 := by omega
  clear ha he
  go_enter Tryd.func53, Tryd.ntmps53
  go_wp2
  go_quiet (fail)
  go_wp2_with fail
  refine (fail_again b s a 11 e0 HE.out _ (hrd.drewN _)).mono ?_
  rintro e w1 ⟨rfl, rfl⟩
  go_wp2
  go_ret
  exact ⟨rfl, hrd.drewN _, only_drewN _ _ _⟩
end Go.Proofs.YtaficbkaofhjeaaDoor
