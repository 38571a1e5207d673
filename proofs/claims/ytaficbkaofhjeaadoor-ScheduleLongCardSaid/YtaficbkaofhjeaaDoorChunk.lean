/- slices.Chunk of three, walked. Conditions: the length is a multiple of three. -/
import Derived.Test.YtaficbkaofhjeaaDoorRuns
namespace Go.Proofs.YtaficbkaofhjeaaDoor
open Go.RowKit Go.Shelf
attribute [local go_sem] Oper.semAt_some

/-- What Chunk does to the world by itself: nothing but drawing. -/
def OnlyN (A B : World) : Prop := A.grownBy B none
/-- What a round keeps for Chunk: its two variables. -/
def KeepsC (b : Nat) (A B : World) : Prop := B.heap[b]? = A.heap[b]? ∧ B.heap[b + 1]? = A.heap[b + 1]?
/-- The element that starts at i. -/
def chunkAt (A : Option Addr) (i : Nat) : Value := .slice (A.map fun x => x.add i) 3 3

set_option maxRecDepth 100000 in
set_option maxHeartbeats 3200000 in
theorem chunk1_in (n : Nat) (hn : 1 ≤ n) (l b : Nat) (A : Option Addr) (c N M : Nat) (hM : M = 3 * N) (hcap : M ≤ c) (hN : N < 1000000) (J Jx : List Nat → World → Prop)
    (hJ : ∀ s A B, J s A → OnlyN A B → J s B)
    (hY : ∀ pre x W, J pre W → pre = List.range x ∧ x < N → YieldAt Fence.wide (n - 1) Tryd.prog l #[chunkAt A (3 * x)] W fun e W' =>
      (e = .returned (.bool true) ∧ J (pre ++ [x]) W' ∧ KeepsC b W W') ∨ (e = .returned (.bool false) ∧ Jx (pre ++ [x]) W'))
    (W : World) (hb0 : Boxed W b 39 (.slice A M c)) (hb1 : Boxed W (b + 1) 3 (.int .i64 3)) (h0 : J [] W) :
    CallsIn Fence.wide n Tryd.prog 41 #[.func (.yield l) #[] #[], .pointer (some ⟨b, 0, none⟩), .pointer (some ⟨b + 1, 0, none⟩)] W fun e W' => (∃ v, e = .returned v) ∧
      ((∃ ys, ys = List.range N ∧ J ys W') ∨ (∃ pre, True ∧ Jx pre W')) := by
  have HM := Lib.hid hM
  refine callsIn_of_wp Tryd.func41 rfl trivial ?_ rfl
  simp only [Tryd.ntmps41, List.size_toArray, List.length_cons, List.length_nil, Nat.reduceAdd, Nat.reduceSub, Array.replicate_succ, Array.replicate_zero, List.push_toArray, List.append_toArray, List.nil_append, List.cons_append]
  clear hM
  gi_wp2
  gi_loopw [4] (fun j wr => ∃ (i k : Nat), j = .int .i64 (i : Nat) ∧ Hid (i = 3 * k) ∧ k ≤ N ∧ J (List.range k) wr ∧ Boxed wr b 39 (.slice A M c) ∧ Boxed wr (b + 1) 3 (.int .i64 3))
    (fun j _ => M - (intOf j).toNat)
  case atStart => exact ⟨0, 0, rfl, Lib.hid rfl, by omega, h0, hb0, hb1⟩
  case round =>
    obtain ⟨i, k, rfl, HI, hk, hj, hx0, hx1⟩ := hrel
    have hc0 := hx0.cell
    have hc1 := hx1.cell
    have hi0 : (0 : Int) ≤ (i : Int) := by omega
    have hi1 : (i : Int) ≤ 3000000 := by have := HI.out; omega
    have hMb : M ≤ 3000000 := by have := HM.out; omega
    by_cases hlt : i < M
    · have hkN : k < N := by have := HI.out; have := HM.out; omega
      have hd1 : decide ((i : Int) < (M : Int)) = true := by simp; omega
      have hd2 : decide (i < M) = true := by simp; omega
      have hle : i + 3 ≤ M := by have := HI.out; have := HM.out; omega
      have hs1 := fun W => run_slice_from (P := Tryd.prog) Tryd.underlying39 Tryd.sizeOf3 A (n := M) (cap := c) (l := i) (by omega) .i64 W
      have hs2 := fun W => run_slice_full (P := Tryd.prog) Tryd.underlying39 Tryd.sizeOf3 A (n := M) (cap := c) (l := i) (h := i + 3) (m := i + 3) (by omega) (by omega) (by omega) .i64 .i64 .i64 W
      have hmin : min (3 : Int) ((M - i : Nat) : Int) = 3 := by omega
      have hs3 : ((i : Int) + 3).toNat - i = 3 := by omega
      gi_wp2
      gi_big_quiet_th (fail)
      have hpl : List.range k = List.range k ∧ k < N := ⟨rfl, hkN⟩
      obtain ⟨fn, tmps, assign, body, hy2, hR2⟩ := hY (List.range k) k (wr.drewN nq) (hJ _ _ _ hj ⟨rfl, rfl, rfl, Nat.le_refl _, fun _ _ _ => rfl⟩) hpl
      rw [← HI.out] at hy2
      unfold chunkAt at hy2
      gi_wp2
      refine hR2.mono ?_
      rintro e W3 (⟨rfl, hJ3, hk3, hk4⟩ | ⟨rfl, hJx3⟩)
      · have hx03 : Boxed W3 b 39 (.slice A M c) := hk3.trans hx0
        have hx13 : Boxed W3 (b + 1) 3 (.int .i64 3) := hk4.trans hx1
        have hcl3 := hx03.cell
        have hcl4 := hx13.cell
        gi_wp2
        exact ⟨⟨i + 3, k + 1, by go_num, Lib.hid (by have := HI.out; omega), by omega, by rw [List.range_succ]; exact hJ3, hx03, hx13⟩, by simp [intOf]; omega⟩
      · gi_wp2
        refine bodyPost_ret (results_none rfl _ _ _) rfl ?_
        exact ⟨⟨_, rfl⟩, .inr ⟨_, trivial, hJx3⟩⟩
    · have hd1 : decide ((i : Int) < (M : Int)) = false := by simp; omega
      have hd2 : decide (i < M) = false := by simp; omega
      have hkN : k = N := by have := HI.out; have := HM.out; omega
      subst hkN
      gi_wp2
      go_end0
      exact ⟨⟨_, rfl⟩, .inl ⟨_, rfl, hj⟩⟩

theorem chunk_stops (n : Nat) (hn : 1 ≤ n) (b : Nat) (A : Option Addr) (c N M : Nat) (hM : M = 3 * N) (hcap : M ≤ c) (hN : N < 1000000) (w : World) (hb0 : Boxed w b 39 (.slice A M c)) (hb1 : Boxed w (b + 1) 3 (.int .i64 3)) :
    SeqAb Fence.wide n Tryd.prog 41 #[.pointer (some ⟨b, 0, none⟩), .pointer (some ⟨b + 1, 0, none⟩)] (fun x : Nat => #[chunkAt A (3 * x)]) OnlyN (KeepsC b) (fun ys => ys = List.range N) (fun _ => True) (fun pre x => pre = List.range x ∧ x < N) w := fun l J Jx W hW hJ _ hY h0 =>
  chunk1_in n hn l b A c N M hM hcap hN J Jx hJ hY W ((hW.block b hb0.lt).trans hb0) ((hW.block (b + 1) hb1.lt).trans hb1) h0

set_option maxHeartbeats 400000 in
theorem chunk_in (n : Nat) (A : Option Addr) (k c : Nat) (w : World) :
    CallsIn Fence.wide n Tryd.prog 23 #[.slice A k c, .int .i64 3] w fun e w' => e = .returned (.func (.func 41) #[] #[.pointer (some ⟨w.heap.size, 0, none⟩), .pointer (some ⟨w.heap.size + 1, 0, none⟩)]) ∧
      w' = (w.alloc (.cells #[.slice A k c] 39)).alloc (.cells #[.int .i64 3] 3) := by
  refine callsIn_of_wp Tryd.func23 rfl trivial ?_ rfl
  simp only [Tryd.ntmps23, List.size_toArray, List.length_cons, List.length_nil, Nat.reduceAdd, Nat.reduceSub, Array.replicate_succ, Array.replicate_zero, List.push_toArray, List.append_toArray, List.nil_append, List.cons_append]
  gi_wp2
  go_ret
  exact ⟨rfl, rfl⟩
end Go.Proofs.YtaficbkaofhjeaaDoor
