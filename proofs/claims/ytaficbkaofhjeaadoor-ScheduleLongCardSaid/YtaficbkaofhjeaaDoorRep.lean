/- slices.Repeat of one choice, walked. Conditions: the count is at most 2001. -/
import Derived.Test.YtaficbkaofhjeaaDoorText
import Derived.Test.YtaficbkaofhjeaaDoorSlice
import Derived.Test.YtaficbkaofhjeaaDoorDec
import Derived.Laws.CopyOwn
namespace Go.Proofs.YtaficbkaofhjeaaDoor
open Go.RowKit

section
variable {P : Program}
/-- copy of elements of two cells. -/
theorem run_copy2 (dT sT ty elem : TypeId) (i : TypeInfo) (hu : P.underlying dT = some (.slice elem)) (hi : P.info? elem = some i) (hs : i.size = 2)
    (w : World) (g o dLen dCap : Nat) (a : Addr) (sLen sCap m : Nat) (hm : m = Nat.min sLen dLen) (cur : Array Value) (t : TypeId) (cs : List Value)
    (hg : w.heap[g]? = some (.cells cur t (0, 0))) (hn : cs.length = m * 2)
    (hsrc : ∀ j v, cs[j]? = some v → w.cell? (a.add j) = some v) (hfit : o + cs.length ≤ cur.size) (h1 : ∀ v ∈ cs, v.oneCell' = true) :
    (Builtin.copy_ #[dT, sT] ty #[.slice (some ⟨g, o, none⟩) dLen dCap, .slice (some a) sLen sCap]).run P w =
      .ok (goInt m) (w.setRow g (cur.toList.take o ++ cs ++ cur.toList.drop (o + cs.length)).toArray) := by
  subst hm
  have hl := run_loadCells_list (P := P) w a cs hsrc
  have hst := run_storeCells_at P g o t cs 0 cur w hg (by simpa using hfit) h1
  simp [Builtin.copy_, run_underlying hu, Builtin.lenOf, Builtin.firstCells, sizeOf, typeInfo, hi, hs, ← hn, hl, hst]
/-- s[:h] of a slice. -/
theorem run_slice_to {t e : TypeId} {size : Nat} (ht : P.underlying t = some (.slice e)) (hs : ∀ w, (sizeOf e).run P w = .ok size w) (g : Nat) {n cap h : Nat} (hh : h ≤ cap) (k : IntKind) (w : World) :
    (Instr.slice t (.slice (some ⟨g, 0, none⟩) n cap) none (some (.int k (h : Int))) none).run P w = .ok (.slice (some ⟨g, 0, none⟩) h cap) w := by
  have hc : (Instr.sliceBound (.int k (h : Int)) cap .sliceAcap).run P w = .ok h w := by
    rw [run_sliceBound w k (h : Int) cap .sliceAcap (by omega) (by omega)]; simp
  simp [Instr.slice, Instr.sliceBounds, Sem.run_bind, run_underlying ht, hc, hs, Result.andThen, Addr.add]
end

theorem addr_add (b off i : Nat) : (⟨b, off, none⟩ : Addr).add i = ⟨b, off + i, none⟩ := by
  unfold Addr.add
  split
  · rename_i h; subst h; rfl
  · rfl
theorem chCells_rep (x : Ch) (k : Nat) : (chCells (List.replicate k x)).length = k * 2 := by rw [chCells_len]; simp
/-- The row when k of its n choices are set. -/
def rowL (x : Ch) (n k : Nat) : List Value := chCells (List.replicate k x) ++ chCells (List.replicate (n - k) (0, 0))
theorem rowL_len (x : Ch) {n k : Nat} (h : k ≤ n) : (rowL x n k).length = n * 2 := by
  unfold rowL; rw [List.length_append, chCells_rep, chCells_rep]; omega
theorem rowL_full (x : Ch) (n : Nat) : rowL x n n = chCells (List.replicate n x) := by
  unfold rowL; rw [Nat.sub_self]; simp [chCells]
theorem rowL_step (x : Ch) {n k m : Nat} (h : k + m ≤ n) : (rowL x n k).take (k * 2) ++ chCells (List.replicate m x) ++ (rowL x n k).drop (k * 2 + (chCells (List.replicate m x)).length) = rowL x n (k + m) := by
  have e1 : (rowL x n k).take (k * 2) = chCells (List.replicate k x) := by
    unfold rowL
    rw [List.take_append_of_le_length (by rw [chCells_rep]; exact Nat.le_refl _), List.take_of_length_le (by rw [chCells_rep]; exact Nat.le_refl _)]
  have e2 : (rowL x n k).drop (k * 2 + (chCells (List.replicate m x)).length) = chCells (List.replicate (n - (k + m)) (0, 0)) := by
    unfold rowL
    rw [chCells_rep, ← List.drop_drop, ← chCells_rep x k, List.drop_left, show n - k = m + (n - (k + m)) from by omega, ← List.replicate_append_replicate, chCells_append, ← chCells_rep (0, 0) m, List.drop_left]
  rw [e1, e2]
  unfold rowL
  rw [← chCells_append, List.replicate_append_replicate]
theorem madeCells_ch (n : Nat) : (madeCells #[.int .i64 0, .int .i64 0] (n * 2)).toList = rowL (0, 0) n 0 := by
  unfold rowL
  apply List.ext_getElem?
  intro j
  rcases Nat.lt_or_ge j (n * 2) with h | h
  · have hl : (chCells (List.replicate n (0, 0))).length = n * 2 := chCells_rep _ _
    have e : (madeCells #[.int .i64 0, .int .i64 0] (n * 2)).toList[j]? = some (.int .i64 0) := by
      rcases Nat.mod_two_eq_zero_or_one j with hp | hp <;> simp [madeCells, h, hp]
    rw [e]
    simp only [List.replicate_zero, Nat.sub_zero]
    rw [show chCells ([] : List Ch) = [] from rfl, List.nil_append]
    rcases Nat.mod_two_eq_zero_or_one j with hp | hp
    · obtain ⟨i, rfl⟩ : ∃ i, j = i * 2 := ⟨j / 2, by omega⟩
      rw [chCells_fst _ _ (by simp; omega)]; simp
    · obtain ⟨i, rfl⟩ : ∃ i, j = i * 2 + 1 := ⟨j / 2, by omega⟩
      rw [chCells_snd _ _ (by simp; omega)]; simp
  · rw [List.getElem?_eq_none (by simp [madeCells]; omega), List.getElem?_eq_none (by simp [chCells_len]; omega)]

theorem copy_rep (B : Nat) (w W : World) (g o n k m sLen sCap dLen dCap : Nat) (x : Ch) (a : Addr) (ho : o = k * 2) (hg : W.heap[g]? = some (.cells (rowL x n k).toArray 36 (0, 0))) (hb : Below B w W) (hBg : B ≤ g)
    (hm : m = Nat.min sLen dLen) (hkm : k + m ≤ n) (hsrc : ∀ j v, (chCells (List.replicate m x))[j]? = some v → W.cell? (a.add j) = some v) :
    ∃ W2, (Builtin.copy_ #[22, 22] 3 #[.slice (some ⟨g, o, none⟩) dLen dCap, .slice (some a) sLen sCap]).run Tryd.prog W = .ok (.int .i64 m) W2 ∧
      W2.heap[g]? = some (.cells (rowL x n (k + m)).toArray 36 (0, 0)) ∧ Below B w W2 := by
  obtain ⟨i0, hi, hz0, hz1, hz2⟩ := info_parts chinfo
  subst ho
  have hr := run_copy2 (P := Tryd.prog) 22 22 3 36 i0 Tryd.underlying22 hi hz1 W g (k * 2) dLen dCap a sLen sCap m hm (rowL x n k).toArray 36 (chCells (List.replicate m x)) hg (chCells_rep _ _) hsrc
    (by rw [List.size_toArray, rowL_len x (by omega), chCells_rep]; omega) (chCells_one _)
  rw [List.toList_toArray, rowL_step x hkm] at hr
  exact ⟨_, hr, setRow_heap W g _ _ _ _ hg, below_setRow hb hBg _⟩
/-- The call returns a slice of its own that holds n times x. -/
def RetC (x : Ch) (n : Nat) (w : World) : Ending → World → Prop := fun e w' => ∃ g : Nat, e = .returned (.slice (some ⟨g, 0, none⟩) n n) ∧ w'.ownsRow w.heap.size 36 2 (.slice (some ⟨g, 0, none⟩) n n) n (chCells (List.replicate n x)) ∧ Below w.heap.size w w'

set_option maxRecDepth 100000 in
set_option maxHeartbeats 3200000 in
theorem rep_any (A : Option Addr) (c : Nat) (x : Ch) (n : Nat) (hn : n ≤ 2001) (w : World) (h : Chs w w.heap.size A [x]) :
    Calls Tryd.prog 18 #[.slice A 1 c, .int .i64 n] w (RetC x n w) := by
  obtain ⟨i0, hi, hz0, hz1, hz2⟩ := info_parts chinfo
  have hn0 : (0 : Int) ≤ (n : Int) := by omega
  have hmul := fun w => Tryd.bits_Mul 1 n (by omega) (by omega) w
  rw [show 1 * n / 18446744073709551616 = 0 from by omega, show 1 * n % 18446744073709551616 = n from by omega] at hmul
  obtain ⟨b, off, rfl, hbb, hcells⟩ := Rd.addr h (by simp)
  have hmk : ∀ w, (Instr.makeSlice 22 (.int .i64 (n : Int)) (.int .i64 (n : Int))).run Tryd.prog w = .ok (.slice (some ⟨w.heap.size, 0, none⟩) n n) (w.alloc (.cells (madeCells #[.int .i64 0, .int .i64 0] (n * 2)) 36)) := fun w => by
    have := run_make (P := Tryd.prog) w 22 36 i0 _ Tryd.underlying22 hi hz0 .i64 .i64 n n (by omega) (Int.le_refl _) (by rw [hz2]; omega) (by omega)
    rw [hz1] at this
    simpa [Value.cells] using this
  have hg0 : (w.alloc (.cells (madeCells #[.int .i64 0, .int .i64 0] (n * 2)) 36)).heap[w.heap.size]? = some (.cells (rowL x n 0).toArray 36 (0, 0)) := by
    rw [heap_alloc_new, ← Array.toArray_toList (xs := madeCells _ _), madeCells_ch]
    rfl
  obtain ⟨m1, hm1⟩ : ∃ m1, m1 = Nat.min 1 n := ⟨_, rfl⟩
  have hm1n : m1 ≤ n ∧ m1 ≤ 1 ∧ (m1 = 0 → n = 0) := by rw [hm1]; simp only [Nat.min_def]; split <;> omega
  obtain ⟨W1, hcp, hg1, hb1⟩ := copy_rep w.heap.size w _ w.heap.size 0 n 0 m1 1 c n n x ⟨b, off, none⟩ rfl hg0 (below_alloc _ _) (Nat.le_refl _) hm1 (by omega) (fun j v hj => by
    have hj0 : (chCells [x])[j]? = some v := by
      rcases Nat.eq_zero_or_pos m1 with e | e
      · rw [e] at hj; simp [chCells] at hj
      · rw [show m1 = 1 from by omega] at hj; exact hj
    rw [addr_add]
    exact (World.cell?_alloc_lt w _ _ hbb).trans (hcells j v hj0))
  rw [Nat.zero_add] at hg1
  clear hg0 hm1
  go_enter Tryd.func18, Tryd.ntmps18
  go_wp2_with fail
  refine (hmul _).mono ?_
  rintro e w9 ⟨rfl, rfl⟩
  go_wp2_with fail
  go_loopw [8] (fun i wr => ∃ k : Nat, i = .int .i64 k ∧ k ≤ n ∧ (k = 0 → n = 0) ∧ Hid (wr.heap[w9.heap.size]? = some (.cells (rowL x n k).toArray 36 (0, 0))) ∧ Below w9.heap.size w9 wr) (fun i _ => n - (intOf i).toNat)
  case atStart => exact ⟨m1, rfl, hm1n.1, hm1n.2.2, Lib.hid hg1, hb1⟩
  case round =>
    obtain ⟨k, rfl, hk, hk0, hg, hb⟩ := hrel
    by_cases hlt : k < n
    · have hd1 : decide ((k : Int) < (n : Int)) = true := decide_eq_true (by omega)
      have hd2 : decide (k < n) = true := decide_eq_true hlt
      have hkp : 1 ≤ k := by omega
      obtain ⟨m, hm⟩ : ∃ m, m = Nat.min k (n - k) := ⟨_, rfl⟩
      have hmn : k + m ≤ n ∧ 1 ≤ m ∧ m ≤ k := by rw [hm]; simp only [Nat.min_def]; split <;> omega
      obtain ⟨W2, hcp2, hg2, hb2⟩ := copy_rep w9.heap.size w9 wr.drew w9.heap.size (k * 2) n k m k n (n - k) (n - k) x ⟨w9.heap.size, 0, none⟩ rfl hg.out hb.drew (Nat.le_refl _) hm (by omega) (fun j v hj => by
        rw [addr_add, cell_of_row _ _ _ _ _ _ (show wr.drew.heap[w9.heap.size]? = _ from hg.out)]
        have hjm : j < m * 2 := by
          rcases Nat.lt_or_ge j (m * 2) with h9 | h9
          · exact h9
          · rw [List.getElem?_eq_none (by rw [chCells_rep]; exact h9)] at hj; cases hj
        rw [Nat.zero_add, List.getElem?_toArray]
        unfold rowL
        rw [List.getElem?_append_left (by rw [chCells_rep]; omega), show k = m + (k - m) from by omega, ← List.replicate_append_replicate, chCells_append, List.getElem?_append_left (by rw [chCells_rep]; exact hjm)]
        exact hj)
      have hsl1 : ∀ w, (Instr.slice 22 (.slice (some ⟨w9.heap.size, 0, none⟩) n n) (some (.int .i64 (k : Int))) none none).run Tryd.prog w = .ok (.slice (some ⟨w9.heap.size, k * 2, none⟩) (n - k) (n - k)) w := fun w => by
        have h9 := run_slice_from (P := Tryd.prog) (size := 2) Tryd.underlying22 (fun w => by simp [sizeOf, typeInfo, hi, hz1]) (some ⟨w9.heap.size, 0, none⟩) (n := n) (cap := n) (l := k) (by omega) .i64 w
        rw [h9, cutAddr, if_neg (by omega)]
        simp [addr_add]
      have hsl2 : ∀ w, (Instr.slice 22 (.slice (some ⟨w9.heap.size, 0, none⟩) n n) none (some (.int .i64 (k : Int))) none).run Tryd.prog w = .ok (.slice (some ⟨w9.heap.size, 0, none⟩) k n) w := fun w =>
        run_slice_to (P := Tryd.prog) (size := 2) Tryd.underlying22 (fun w => by simp [sizeOf, typeInfo, hi, hz1]) w9.heap.size (n := n) (cap := n) (h := k) (by omega) .i64 w
      have hwr1 : IntKind.i64.wrap ((k : Int) + (m : Int)) = (k : Int) + (m : Int) := by rw [IntKind.wrap_i64]; omega
      have HG2 := Lib.hid hg2
      clear hm hg2 hg
      go_wp2_with fail
      go_region
      all_goals
        go_wp2_with fail
        exact ⟨⟨k + m, by go_num, by omega, by omega, HG2, hb2⟩, by simp [intOf]; omega⟩
    · have hd1 : decide ((k : Int) < (n : Int)) = false := decide_eq_false (by omega)
      have hd2 : decide (k < n) = false := decide_eq_false hlt
      obtain rfl : k = n := by omega
      go_wp2_with fail
      go_ret
      refine ⟨w9.heap.size, rfl, ⟨by rw [chCells_rep], .inr ⟨w9.heap.size, k, (rowL x k k).toArray, rfl, Nat.le_refl _, hg.out, Nat.le_refl _, by unfold maxLen; omega, by rw [List.size_toArray, rowL_len x (Nat.le_refl _)], ?_⟩⟩, hb⟩
      rw [List.toList_toArray, rowL_full, List.take_of_length_le (by rw [chCells_rep]; exact Nat.le_refl _)]
end Go.Proofs.YtaficbkaofhjeaaDoor
