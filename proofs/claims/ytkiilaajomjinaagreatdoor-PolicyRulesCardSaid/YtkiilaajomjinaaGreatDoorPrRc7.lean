/- slices.Insert of one rule into a row of rules of the call's own, walked: all roads. Conditions: the index is within the row or its end. -/
import Derived.Test.YtkiilaajomjinaaGreatDoorPrRc1
import Derived.Lib.Overlaps
import Derived.Lib.AppendZerosOnto
import Derived.Shelf.Spec.SlicesInsert
import Derived.Laws.NewBlocks
import Derived.Laws.CopyOwn
import Derived.Test.YtkiilaajomjinaaGreatDoorPrRnk
import Derived.Test.YtkiilaajomjinaaGreatDoorPrOrdM
import Derived.Deep.RegionHeld3
namespace Go.Proofs.YtkiilaajomjinaaGreatDoor
open Go.RowKit Go.Deep
/-- copy of elements of k cells each onto a row that is known whole. -/
theorem run_copy_row_k {P : Program} (w : World) (dT sT ty elem : TypeId) (k n g o dLen dCap : Nat) (a : Addr) (sLen sCap : Nat) (cur : Array Value) (t : TypeId) (cs : List Value)
    (hu : P.underlying dT = some (.slice elem)) (hs : (P.info? elem).map (·.size) = some k)
    (hg : w.heap[g]? = some (.cells cur t (0, 0))) (hn : n = Nat.min sLen dLen) (hl : cs.length = n * k)
    (hsrc : ∀ j v, cs[j]? = some v → w.cell? (a.add j) = some v) (hfit : o + cs.length ≤ cur.size) (h1 : ∀ v ∈ cs, v.oneCell' = true) :
    (Builtin.copy_ #[dT, sT] ty #[.slice (some ⟨g, o, none⟩) dLen dCap, .slice (some a) sLen sCap]).run P w =
      .ok (goInt n) (w.setRow g (cur.toList.take o ++ cs ++ cur.toList.drop (o + cs.length)).toArray) := by
  have hld := run_loadCells_list (P := P) w a cs hsrc
  have hst := run_storeCells_at P g o t cs 0 cur w hg (by simpa using hfit) h1
  cases hq : P.info? elem with
  | none => simp [hq] at hs
  | some i =>
    have hi : i.size = k := by simpa [hq] using hs
    rw [hl] at hld
    simp [Builtin.copy_, run_underlying hu, Builtin.lenOf, Builtin.firstCells, sizeOf, typeInfo, hq, hi, ← hn, hld, hst]
theorem ruleSize : (Tryz.prog.info? 53).map (·.size) = some 10 := by kernel_rfl
theorem ruleSz : ∀ w, (Go.sizeOf 53).run Tryz.prog w = .ok 10 w := fun w => by kernel_rfl
theorem below_row {B g : Nat} {w0 w : World} (hb : Below B w0 w) (hBg : B ≤ g) (cs : Array Value) : Below B w0 (w.setRow g cs) := below_setRow hb hBg cs
/-- What Insert returns. -/
def InsR (base n : Nat) (ys : List Value) (w : World) : Ending → World → Prop := fun e W => Below base w W ∧ ∃ v', e = .returned v' ∧ W.ownsRow base 53 10 v' (n + 1) ys
set_option maxRecDepth 100000 in
set_option maxHeartbeats 6400000 in
theorem insert_end (base : Nat) (A : Option Addr) (n c : Nat) (xs cs : List Value) (vb : Nat) (w : World) (hown : w.ownsRow base 53 10 (.slice A n c) n xs) (hn : n ≤ 64) (hbase : base ≤ w.heap.size) (hcl : cs.length = 10) (h1 : ∀ u ∈ cs, u.oneCell' = true)
    (hv : w.heap[vb]? = some (.cells cs.toArray 53 (0, 0))) :
    Calls Tryz.prog 28 #[.slice A n c, .int .i64 (n : Nat), .slice (some ⟨vb, 0, none⟩) 1 1] w (InsR base n (xs ++ cs) w) := by
  have hrd : Rd w (vb + 1) 10 (some ⟨vb, 0, none⟩) 1 cs := ⟨by omega, .inr ⟨vb, 0, rfl, by omega, fun j u hu => by rw [Nat.zero_add]; simp only [World.cell?, hv]; rw [List.getElem?_toArray]; exact hu⟩⟩
  obtain ⟨i0, hi, hy0, hy1, hy2⟩ := info_parts ruleInfo
  have hcap : n ≤ c := own_cap' hown
  have hBG := Lib.hid (fun (W : World) (hg : w.grownBy W (Value.slice A n c).ownBlock) => (Below.refl base w).grown hg hbase (fun g e => by have := World.ownsRow.lt hown g e; omega))
  have HOWN := Lib.hid hown
  have HRD := Lib.hid hrd
  have HONE := Lib.hid h1
  have hz : ¬ ((1 : Int) = 0) := by omega
  unfold InsR
  clear hown hrd h1 hv
  cases A with
  | none =>
    go_enter Tryz.func28, Tryz.ntmps28
    obtain rfl : n = 0 := by
      rcases HOWN.out.2 with ⟨e, h⟩ | ⟨g, cap, cur, e, -⟩
      · exact h
      · cases e
    go_wp2_with (at_builtin; refine wpList_append_rd rfl (.tmp 23) (.tmp 24) _ rfl base 53 i0 (.agg #[.int .i64 0, .int .i64 0, .string ⟨#[]⟩, .int .i64 0, .slice none 0 0, .int .i64 0, .int .i64 0, .string ⟨#[]⟩, .int .i64 0, .slice none 0 0]) 10 128 Tryz.underlying22 hi hy0 hy1 hy2 rfl (by omega) _ _ _ rfl HOWN.out (vb + 1) (some ⟨vb, 0, none⟩) 1 1 cs rfl HRD.out HONE.out (by unfold maxLen; omega) (by omega) hbase ?_; intro v2 w3 hown2 hg2 hob2)
    go_ret
    exact ⟨hBG.out _ hg2, _, rfl, hown2⟩
  | some a =>
    go_enter Tryz.func28, Tryz.ntmps28
    go_wp2_with (at_builtin; refine wpList_append_rd rfl (.tmp 23) (.tmp 24) _ rfl base 53 i0 (.agg #[.int .i64 0, .int .i64 0, .string ⟨#[]⟩, .int .i64 0, .slice none 0 0, .int .i64 0, .int .i64 0, .string ⟨#[]⟩, .int .i64 0, .slice none 0 0]) 10 128 Tryz.underlying22 hi hy0 hy1 hy2 rfl (by omega) _ _ _ rfl HOWN.out (vb + 1) (some ⟨vb, 0, none⟩) 1 1 cs rfl HRD.out HONE.out (by unfold maxLen; omega) (by omega) hbase ?_; intro v2 w3 hown2 hg2 hob2)
    all_goals (
      go_ret
      exact ⟨hBG.out _ hg2, _, rfl, hown2⟩)
theorem cell_of_cells {W : World} {g j : Nat} {L : List Value} {T : TypeId} {fz : Nat × Nat} (h : W.heap[g]? = some (.cells L.toArray T fz)) {u : Value} (hu : L[j]? = some u) : W.cell? ⟨g, j, none⟩ = some u := by
  simp only [World.cell?, h]
  rw [List.getElem?_toArray]
  exact hu
theorem row_of_own {W : World} {base : Nat} {b n c : Nat} {xs : List Value} (h : W.ownsRow base 53 10 (.slice (some ⟨b, 0, none⟩) n c) n xs) : ∃ L : List Value, base ≤ b ∧ W.heap[b]? = some (.cells L.toArray 53 (0, 0)) ∧ n ≤ c ∧ c ≤ maxLen ∧ L.length = c * 10 ∧ L.take (n * 10) = xs := by
  rcases h.2 with ⟨e, _⟩ | ⟨g, cap, cur, e, h1, h2, h3, h4, h5, h6⟩
  · cases e
  · injection e with e1 _ e3
    injection e1 with e1
    injection e1 with e1
    subst e1 e3
    exact ⟨cur.toList, h1, by simpa using h2, h3, h4, by simpa using h5, h6⟩
set_option maxRecDepth 100000 in
set_option maxHeartbeats 12800000 in
theorem insert_grow (base b n i : Nat) (xs cs : List Value) (vb : Nat) (w : World) (hown : w.ownsRow base 53 10 (.slice (some ⟨b, 0, none⟩) n n) n xs) (hi : i < n) (hn : n ≤ 64) (hbase : base ≤ w.heap.size) (hcl : cs.length = 10) (h1 : ∀ u ∈ cs, u.oneCell' = true) (h1x : ∀ u ∈ xs, u.oneCell' = true)
    (hv : w.heap[vb]? = some (.cells cs.toArray 53 (0, 0))) :
    Calls Tryz.prog 28 #[.slice (some ⟨b, 0, none⟩) n n, .int .i64 (i : Nat), .slice (some ⟨vb, 0, none⟩) 1 1] w (InsR base n (xs.take (i * 10) ++ (cs ++ xs.drop (i * 10))) w) := by
  have hxl : xs.length = n * 10 := hown.1
  obtain ⟨L, hbb, hb, -, -, hLl, hLt⟩ := row_of_own hown
  have hbw : b < w.heap.size := (Array.getElem?_eq_some_iff.1 hb).1
  have hvw : vb < w.heap.size := (Array.getElem?_eq_some_iff.1 hv).1
  obtain ⟨i0, hinf, hy0, hy1, hy2⟩ := info_parts ruleInfo
  have hLx : ∀ (j : Nat) (u : Value), xs[j]? = some u → L[j]? = some u := fun j u hu => by
    rw [← hLt, List.getElem?_take] at hu
    split at hu
    · exact hu
    · cases hu
  have hold : (Builtin.firstCells i0.size i (.slice (some ⟨b, 0, none⟩) i n)).run Tryz.prog w.drew = .ok (xs.take (i * 10)).toArray w.drew := by
    rw [hy1]
    exact run_firstCells_some w.drew 10 i ⟨b, 0, none⟩ i n (xs.take (i * 10)) (by rw [List.length_take]; omega) (fun j v hj => by
      rw [Addr.add_lit, Nat.zero_add]
      rw [List.getElem?_take] at hj
      split at hj
      · exact cell_of_cells (W := w) hb (hLx j v hj)
      · cases hj)
  have hX1 : ∃ (G : Nat) (R : List Value) (W1 : World), (∀ ty, (Builtin.append_ #[22, 3] ty #[.slice (some ⟨b, 0, none⟩) i n, .int .i64 ((n : Int) + 1 - (i : Int))]).run Tryz.prog w = .ok (.slice (some ⟨w.heap.size, 0, none⟩) (n + 1) G) W1) ∧
      W1.heap[w.heap.size]? = some (.cells R.toArray 53 (0, 0)) ∧ R.length = G * 10 ∧ R.take (i * 10) = xs.take (i * 10) ∧ n + 1 ≤ G ∧ G ≤ maxLen ∧ Below w.heap.size w W1 := by
    have h := fun ty => Lib.run_append_grow_zeros w 22 3 ty 53 i0 _ .i64 .i64 Tryz.underlying22 Tryz.underlying3 hinf hy0 (some ⟨b, 0, none⟩) i n (xs.take (i * 10)) hold (n + 1 - i) (by omega) (by omega) (by omega) (by omega) (by rw [hy2]; omega) (by rw [hy2, show i + (n + 1 - i) = n + 1 from by omega]; exact growslice_fits (by omega) (by omega))
    rw [show i + (n + 1 - i) = n + 1 from by omega, show (((n + 1 - i : Nat) : Int)) = (n : Int) + 1 - (i : Int) from by omega] at h
    have hG1 : n + 1 ≤ grownCap w (n + 1) n 53 := grownCap_ge w _ _ _
    have hG2 := grownCap_le_maxLen w (n + 1) n 53 (by unfold maxLen; omega)
    refine ⟨_, ((xs.take (i * 10)).toArray ++ Builtin.zeroCells (Value.agg #[.int .i64 0, .int .i64 0, .string ⟨#[]⟩, .int .i64 0, .slice none 0 0, .int .i64 0, .int .i64 0, .string ⟨#[]⟩, .int .i64 0, .slice none 0 0]).cells (n + 1 - i) ++ Builtin.zeroCells (Value.agg #[.int .i64 0, .int .i64 0, .string ⟨#[]⟩, .int .i64 0, .slice none 0 0, .int .i64 0, .int .i64 0, .string ⟨#[]⟩, .int .i64 0, .slice none 0 0]).cells (grownCap w (n + 1) n 53 - (n + 1))).toList, _, h, ?_, ?_, ?_, hG1, hG2, ?_⟩
    · rw [Array.toArray_toList]; exact heap_alloc_new w.drew _
    · have hzl : ∀ k, (Builtin.zeroCells (Value.agg #[.int .i64 0, .int .i64 0, .string ⟨#[]⟩, .int .i64 0, .slice none 0 0, .int .i64 0, .int .i64 0, .string ⟨#[]⟩, .int .i64 0, .slice none 0 0]).cells k).size = k * 10 := fun k => by simp [Builtin.zeroCells, Value.cells]
      simp only [Array.toList_append, List.length_append, Array.length_toList, hzl, List.length_take]
      omega
    · simp only [Array.toList_append]
      rw [List.append_assoc, List.take_left' (by rw [List.length_take]; omega)]
    · exact (below_drews w.heap.size w 1).trans (below_alloc w.drew _)
  obtain ⟨G, R, W1, hrz, hg1, hRl, hRt, hG1, hG2, hb1⟩ := hX1
  have hX2 : ∃ W2 : World, (∀ ty dc, (Builtin.copy_ #[22, 22] ty #[.slice (some ⟨w.heap.size, i * 10, none⟩) (n + 1 - i) dc, .slice (some ⟨vb, 0, none⟩) 1 1]).run Tryz.prog W1 = .ok (goInt 1) W2) ∧
      W2.heap[w.heap.size]? = some (.cells (R.take (i * 10) ++ cs ++ R.drop (i * 10 + 10)).toArray 53 (0, 0)) ∧ Below w.heap.size w W2 := by
    refine ⟨_, fun ty dc => run_copy_row_k W1 _ _ ty 53 10 1 w.heap.size (i * 10) (n + 1 - i) dc ⟨vb, 0, none⟩ 1 1 R.toArray _ cs Tryz.underlying22 ruleSize hg1 (by simp only [Nat.min_def]; split <;> omega) (by omega) (fun j v hj => ?_) (by rw [List.size_toArray]; omega) h1, ?_, ?_⟩
    · rw [Addr.add_lit, Nat.zero_add]
      exact (hb1.cell (p := ⟨vb, j, none⟩) hvw).trans (cell_of_cells hv hj)
    · rw [hcl]
      exact setRow_heap W1 _ _ _ _ _ hg1
    · exact below_setRow hb1 (Nat.le_refl _) _
  obtain ⟨W2, hcA, hg2, hb2⟩ := hX2
  have hR2l : (R.take (i * 10) ++ cs ++ R.drop (i * 10 + 10)).length = G * 10 := by simp only [List.length_append, List.length_take, List.length_drop]; omega
  have hdl : (xs.drop (i * 10)).length = (n - i) * 10 := by rw [List.length_drop]; omega
  have hX3 : ∃ W3 : World, (∀ ty dc sc, (Builtin.copy_ #[22, 22] ty #[.slice (some ⟨w.heap.size, (i + 1) * 10, none⟩) (n - i) dc, .slice (some ⟨b, i * 10, none⟩) (n - i) sc]).run Tryz.prog W2.drew = .ok (goInt (n - i : Nat)) W3) ∧
      W3.heap[w.heap.size]? = some (.cells (((R.take (i * 10) ++ cs ++ R.drop (i * 10 + 10)).take ((i + 1) * 10)) ++ xs.drop (i * 10) ++ ((R.take (i * 10) ++ cs ++ R.drop (i * 10 + 10)).drop ((i + 1) * 10 + (n - i) * 10))).toArray 53 (0, 0)) ∧ Below w.heap.size w W3 := by
    have hb2d : Below w.heap.size w W2.drew := hb2.trans (below_drews _ _ 1)
    refine ⟨_, fun ty dc sc => run_copy_row_k W2.drew _ _ ty 53 10 (n - i) w.heap.size ((i + 1) * 10) (n - i) dc ⟨b, i * 10, none⟩ (n - i) sc _ _ (xs.drop (i * 10)) Tryz.underlying22 ruleSize hg2 (by simp only [Nat.min_def]; split <;> omega) hdl (fun j v hj => ?_) (by rw [List.size_toArray, hR2l]; omega) (fun u hu => h1x u (List.mem_of_mem_drop hu)), ?_, ?_⟩
    · rw [Addr.add_lit]
      rw [List.getElem?_drop] at hj
      exact (hb2d.cell (p := ⟨b, i * 10 + j, none⟩) hbw).trans (cell_of_cells hb (hLx _ v hj))
    · rw [hdl]
      exact setRow_heap W2.drew _ _ _ _ _ hg2
    · exact below_setRow hb2d (Nat.le_refl _) _
  obtain ⟨W3, hcB, hg3, hb3⟩ := hX3
  have hfin : InsR base n (xs.take (i * 10) ++ (cs ++ xs.drop (i * 10))) w (.returned (.slice (some ⟨w.heap.size, 0, none⟩) (n + 1) G)) W3 := by
    refine ⟨hb3.mono hbase, _, rfl, by simp only [List.length_append, List.length_take, hdl]; omega, .inr ⟨w.heap.size, G, _, rfl, hbase, hg3, hG1, hG2, ?_, ?_⟩⟩
    · rw [List.size_toArray]
      simp only [List.length_append, List.length_take, List.length_drop, hR2l, hdl]
      omega
    · have e1 : (R.take (i * 10) ++ cs ++ R.drop (i * 10 + 10)).take ((i + 1) * 10) = xs.take (i * 10) ++ cs := by
        rw [List.take_left' (by simp only [List.length_append, List.length_take]; omega), hRt]
      rw [e1, List.toList_toArray, List.take_left' (by simp only [List.length_append, List.length_take, hdl]; omega), List.append_assoc]
  have HF := Lib.hid hfin
  have hz1 : ¬ ((1 : Int) = 0) := by omega
  have hz2 : ¬ ((i : Int) = (n : Int)) := by omega
  have hz3 : (n : Int) < (n : Int) + 1 := by omega
  have hw0 : IntKind.i64.wrap ((n : Int) + 1) = (n : Int) + 1 := by rw [IntKind.wrap_i64]; omega
  have hw2 : IntKind.i64.wrap ((n : Int) + 1 - (i : Int)) = (n : Int) + 1 - (i : Int) := by rw [IntKind.wrap_i64]; omega
  have hw1 : IntKind.i64.wrap ((i : Int) + 1) = (i : Int) + 1 := by rw [IntKind.wrap_i64]; omega
  have hb9 : (0 : Int) ≤ (i : Int) + 1 := by omega
  have hi0 : (0 : Int) ≤ (i : Int) := by omega
  have hin : i ≤ n := by omega
  have hinI : (i : Int) ≤ (n : Int) := by omega
  have htn : ((i : Int) + 1).toNat = i + 1 := by omega
  have hb3' : (i : Int) + 1 ≤ (n : Int) + 1 := by omega
  have hGi : ¬ (G = i) := by omega
  have hGim : ¬ (G = i + 1) := by omega
  have hni : ¬ (n = i) := by omega
  have mixed : Tryz.prog.follows Departure.mixedOrders = true := by kernel_rfl
  clear hfin hg1 hg2 hg3 hb1 hb2 hb3 hold hLx hLt hLl hb hv hown hRl hRt hR2l hdl h1 h1x
  go_enter Tryz.func28, Tryz.ntmps28
  go_wp2_with (first
    | (at_builtin; refine Lib.wpList_append_run _ rfl _ _ _ _ rfl _ _ rfl rfl _ _ (hrz _) ?_)
    | (at_builtin; refine wpList_copy_runI _ rfl _ _ 22 22 rfl _ _ rfl rfl (hcA _ _) ?_)
    | (at_builtin; refine wpList_copy_runI _ rfl _ _ 22 22 rfl _ _ rfl rfl (hcB _ _ _) ?_))
  go_region_law_o (refine step_copy_runI rfl _ _ 22 22 rfl _ _ (by simp [Act.eval, Act.put]) (by simp [Act.eval, Act.put]) (hcB _ _ _) ?_)
  go_wp2
  go_ret
  exact HF.out
set_option maxRecDepth 100000 in
set_option maxHeartbeats 12800000 in
theorem insert_shift (base b n c i : Nat) (xs cs : List Value) (vb : Nat) (w : World) (hown : w.ownsRow base 53 10 (.slice (some ⟨b, 0, none⟩) n c) n xs) (hi : i < n) (hroom : n < c) (hn : n ≤ 64) (hvb : vb ≠ b) (hcl : cs.length = 10) (h1 : ∀ u ∈ cs, u.oneCell' = true) (h1x : ∀ u ∈ xs, u.oneCell' = true)
    (hv : w.heap[vb]? = some (.cells cs.toArray 53 (0, 0))) :
    Calls Tryz.prog 28 #[.slice (some ⟨b, 0, none⟩) n c, .int .i64 (i : Nat), .slice (some ⟨vb, 0, none⟩) 1 1] w (InsR base n (xs.take (i * 10) ++ (cs ++ xs.drop (i * 10))) w) := by
  have hxl : xs.length = n * 10 := hown.1
  obtain ⟨L, hbb, hb, -, hcm, hLl, hLt⟩ := row_of_own hown
  have hvw : vb < w.heap.size := (Array.getElem?_eq_some_iff.1 hv).1
  have hLx : ∀ (j : Nat) (u : Value), xs[j]? = some u → L[j]? = some u := fun j u hu => by
    rw [← hLt, List.getElem?_take] at hu
    split at hu
    · exact hu
    · cases hu
  have hov : ∀ lb cb, (callFunc 56 #[.slice (some ⟨vb, 0, none⟩) 1 1, .slice (some ⟨b, (i + 1) * 10, none⟩) lb cb]).run Tryz.prog w = .ok (.value (.bool false)) w := fun lb cb => by
    rw [run_callFunc_extern Tryz.func56 (by kernel_rfl) (by kernel_rfl) (by kernel_rfl) (e := Extern.SlicesOverlaps.overlaps #[22, 22] #[4]) (by kernel_rfl),
      Lib.run_overlaps_apart w 22 4 53 Tryz.underlying22 10 ruleSz ⟨vb, 0, none⟩ ⟨b, (i + 1) * 10, none⟩ 1 1 lb cb hvb 53 53 10 (c * 10) (by simp [World.shape?, hv, hcl]) (by simp [World.shape?, hb, hLl]) (by omega) (by simp [World.frozen?, hv]) (by simp [World.frozen?, hv])]
    rfl
  have hdl : (xs.drop (i * 10)).length = (n - i) * 10 := by rw [List.length_drop]; omega
  have hX1 : ∃ W1 : World, (∀ ty dc sc, (Builtin.copy_ #[22, 22] ty #[.slice (some ⟨b, (i + 1) * 10, none⟩) (n - i) dc, .slice (some ⟨b, i * 10, none⟩) (n + 1 - i) sc]).run Tryz.prog w.drew = .ok (goInt (n - i : Nat)) W1) ∧
      W1.heap[b]? = some (.cells (L.take ((i + 1) * 10) ++ xs.drop (i * 10) ++ L.drop ((i + 1) * 10 + (n - i) * 10)).toArray 53 (0, 0)) ∧ Below base w W1 ∧ W1.heap[vb]? = some (.cells cs.toArray 53 (0, 0)) := by
    refine ⟨_, fun ty dc sc => run_copy_row_k w.drew _ _ ty 53 10 (n - i) b ((i + 1) * 10) (n - i) dc ⟨b, i * 10, none⟩ (n + 1 - i) sc L.toArray _ (xs.drop (i * 10)) Tryz.underlying22 ruleSize hb (by simp only [Nat.min_def]; split <;> omega) hdl (fun j v hj => ?_) (by rw [List.size_toArray]; omega) (fun u hu => h1x u (List.mem_of_mem_drop hu)), ?_, ?_, ?_⟩
    · rw [Addr.add_lit]
      rw [List.getElem?_drop] at hj
      exact cell_of_cells (W := w) hb (hLx _ v hj)
    · rw [hdl]
      exact setRow_heap w.drew _ _ _ _ _ hb
    · exact below_setRow (below_drews _ _ 1) hbb _
    · rw [setRow_other _ _ _ _ hvb]; exact hv
  obtain ⟨W1, hcA, hg1, hb1, hv1⟩ := hX1
  have hR1l : (L.take ((i + 1) * 10) ++ xs.drop (i * 10) ++ L.drop ((i + 1) * 10 + (n - i) * 10)).length = c * 10 := by simp only [List.length_append, List.length_take, List.length_drop, hdl]; omega
  have hX2 : ∃ W2 : World, (∀ ty dc, (Builtin.copy_ #[22, 22] ty #[.slice (some ⟨b, i * 10, none⟩) (n + 1 - i) dc, .slice (some ⟨vb, 0, none⟩) 1 1]).run Tryz.prog W1 = .ok (goInt 1) W2) ∧
      W2.heap[b]? = some (.cells ((L.take ((i + 1) * 10) ++ xs.drop (i * 10) ++ L.drop ((i + 1) * 10 + (n - i) * 10)).take (i * 10) ++ cs ++ (L.take ((i + 1) * 10) ++ xs.drop (i * 10) ++ L.drop ((i + 1) * 10 + (n - i) * 10)).drop (i * 10 + 10)).toArray 53 (0, 0)) ∧ Below base w W2 := by
    refine ⟨_, fun ty dc => run_copy_row_k W1 _ _ ty 53 10 1 b (i * 10) (n + 1 - i) dc ⟨vb, 0, none⟩ 1 1 _ _ cs Tryz.underlying22 ruleSize hg1 (by simp only [Nat.min_def]; split <;> omega) (by omega) (fun j v hj => ?_) (by rw [List.size_toArray, hR1l]; omega) h1, ?_, ?_⟩
    · rw [Addr.add_lit, Nat.zero_add]
      exact cell_of_cells hv1 hj
    · rw [hcl]
      exact setRow_heap W1 _ _ _ _ _ hg1
    · exact below_setRow hb1 hbb _
  obtain ⟨W2, hcB, hg2, hb2⟩ := hX2
  have hfin : InsR base n (xs.take (i * 10) ++ (cs ++ xs.drop (i * 10))) w (.returned (.slice (some ⟨b, 0, none⟩) (n + 1) c)) W2 := by
    refine ⟨hb2, _, rfl, by simp only [List.length_append, List.length_take, hdl]; omega, .inr ⟨b, c, _, rfl, hbb, hg2, hroom, hcm, ?_, ?_⟩⟩
    · rw [List.size_toArray]
      simp only [List.length_append, List.length_take, List.length_drop, hR1l]
      omega
    · have e1 : (L.take ((i + 1) * 10) ++ xs.drop (i * 10) ++ L.drop ((i + 1) * 10 + (n - i) * 10)).take (i * 10) = xs.take (i * 10) := by
        rw [List.append_assoc, List.take_append_of_le_length (by rw [List.length_take]; omega), List.take_take, Nat.min_eq_left (by omega), ← hLt, List.take_take, Nat.min_eq_left (by omega)]
      have e2 : (L.take ((i + 1) * 10) ++ xs.drop (i * 10) ++ L.drop ((i + 1) * 10 + (n - i) * 10)).drop (i * 10 + 10) = xs.drop (i * 10) ++ L.drop ((i + 1) * 10 + (n - i) * 10) := by
        rw [List.append_assoc, List.drop_left' (by rw [List.length_take]; omega)]
      rw [e1, e2, List.toList_toArray, ← List.append_assoc, List.take_left' (by simp only [List.length_append, List.length_take, hdl]; omega), List.append_assoc]
  have HF := Lib.hid hfin
  have hz1 : ¬ ((1 : Int) = 0) := by omega
  have hz2 : ¬ ((i : Int) = (n : Int)) := by omega
  have hz3 : ¬ ((c : Int) < (n : Int) + 1) := by omega
  have hc63 : c ≤ 9223372036854775807 := by unfold maxLen at hcm; omega
  have hw0 : IntKind.i64.wrap ((n : Int) + 1) = (n : Int) + 1 := by rw [IntKind.wrap_i64]; omega
  have hw1 : IntKind.i64.wrap ((i : Int) + 1) = (i : Int) + 1 := by rw [IntKind.wrap_i64]; omega
  have hb9 : (0 : Int) ≤ (i : Int) + 1 := by omega
  have hb8 : (0 : Int) ≤ (n : Int) + 1 := by omega
  have hi0 : (0 : Int) ≤ (i : Int) := by omega
  have hin : i ≤ n := by omega
  have hinI : (i : Int) ≤ (n : Int) := by omega
  have htn : ((i : Int) + 1).toNat = i + 1 := by omega
  have htm : ((n : Int) + 1).toNat = n + 1 := by omega
  have hb3' : (i : Int) + 1 ≤ (n : Int) + 1 := by omega
  have hb4 : (n : Int) + 1 ≤ (c : Int) := by omega
  have hb5 : (i : Int) ≤ (n : Int) + 1 := by omega
  have hci : ¬ (c = i) := by omega
  have hcim : ¬ (c = i + 1) := by omega
  have mixed : Tryz.prog.follows Departure.mixedOrders = true := by kernel_rfl
  clear hfin hg1 hg2 hb1 hb2 hLx hLt hLl hb hv hv1 hown hR1l hdl h1 h1x
  go_enter Tryz.func28, Tryz.ntmps28
  go_wp2_with (simp only [hov])
  go_region_law_o (refine step_copy_runI rfl _ _ 22 22 rfl _ _ (by simp [Act.eval, Act.put]) (by simp [Act.eval, Act.put]) (hcA _ _ _) ?_)
  go_wp2_with (at_builtin; refine wpList_copy_runI _ rfl _ _ 22 22 rfl _ _ rfl rfl (hcB _ _) ?_)
  go_ret
  exact HF.out
/-- Insert of one rule, all roads. -/
theorem insert_rows (base : Nat) (A : Option Addr) (n c i : Nat) (xs cs : List Value) (vb : Nat) (w : World) (hown : w.ownsRow base 53 10 (.slice A n c) n xs) (hi : i ≤ n) (hn : n ≤ 64) (hbase : base ≤ w.heap.size) (hvb : (Value.slice A n c).ownBlock ≠ some vb) (hcl : cs.length = 10) (h1 : ∀ u ∈ cs, u.oneCell' = true) (h1x : ∀ u ∈ xs, u.oneCell' = true)
    (hv : w.heap[vb]? = some (.cells cs.toArray 53 (0, 0))) :
    Calls Tryz.prog 28 #[.slice A n c, .int .i64 (i : Nat), .slice (some ⟨vb, 0, none⟩) 1 1] w (InsR base n (xs.take (i * 10) ++ (cs ++ xs.drop (i * 10))) w) := by
  by_cases e : i = n
  · subst e
    have hxl := hown.1
    rw [List.take_of_length_le (by omega), List.drop_of_length_le (by omega), List.append_nil]
    exact insert_end base A i c xs cs vb w hown hn hbase hcl h1 hv
  · rcases hown.2 with ⟨_, h0⟩ | ⟨g, cap, cur, e1, h2, h3, h4, h5, h6, h7⟩
    · omega
    · injection e1 with e1 _ e3
      subst e1 e3
      by_cases hr : n < c
      · exact insert_shift base g n c i xs cs vb w hown (by omega) hr hn (fun h => hvb (by rw [h]; rfl)) hcl h1 h1x hv
      · obtain rfl : c = n := by omega
        exact insert_grow base g c i xs cs vb w hown (by omega) hn hbase hcl h1 h1x hv
end Go.Proofs.YtkiilaajomjinaaGreatDoor

/- PolicyRules$1 (whether a rule applies to the choice at an index), walked. Conditions: policy and attributes lie in memory; the index is one of theirs. -/
namespace Go.Proofs.YtkiilaajomjinaaGreatDoor
open Go.RowKit
def appP (rs : List Rl) (ls : List At) (k : Nat) : Bool := decide ((rankR rs (ls.getD k ⟨0, 0, []⟩).vals).1 < (rs.length : Int))
theorem idx2 (a b : Value) (w : World) : (Instr.index 55 (.agg #[a, b]) (.int .i64 0)).run Tryz.prog w = .ok a w := by kernel_rfl
set_option maxRecDepth 100000 in
set_option maxHeartbeats 3200000 in
theorem applies_any (A : Option Addr) (c B : Nat) (rs : List Rl) (Al : Option Addr) (cl : Nat) (ls : List At) (k X L : Nat) (w : World) (hP : LiesP w B A c rs) (hB : B ≤ w.heap.size) (hL : LiesA w B Al cl ls) (hk : k < ls.length) (hV : BdOk (ls[k]'hk).vals)
    (hx : w.cell? ⟨X, 0, none⟩ = some (.slice A rs.length c)) (hl : w.cell? ⟨L, 0, none⟩ = some (.slice Al ls.length cl)) :
    Calls Tryz.prog 22 #[.int .i64 (k : Nat), .pointer (some ⟨L, 0, none⟩), .pointer (some ⟨X, 0, none⟩)] w (Ret (.bool (appP rs ls k)) w) := by
  have hll := hL.len
  obtain ⟨hvl, b, off, A', c', rfl, hb, hr, y0, y1, y2⟩ := hL.at_ k hk
  have hkl : (k : Int) < (ls.length : Int) := by omega
  have hk0 : (0 : Int) ≤ (k : Int) := by omega
  have d1 : decide ((k : Int) < 0) = false := decide_eq_false (by omega)
  have d2 : decide ((k : Int) ≥ (ls.length : Int)) = false := decide_eq_false (by omega)
  have d3 : decide ((ls.length : Int) ≤ (k : Int)) = false := decide_eq_false (by omega)
  have d4 : decide (ls.length ≤ k) = false := decide_eq_false (by omega)
  have HAP : Hid (appP rs ls k = decide ((rankR rs ls[k].vals).1 < (rs.length : Int))) := Lib.hid (by unfold appP; simp [List.getD, List.getElem?_eq_getElem hk])
  generalize appP rs ls k = ap at HAP ⊢
  have HC : Hid (∀ W, Below w.heap.size w W → W.cell? ⟨X, 0, none⟩ = some (.slice A rs.length c) ∧ W.cell? ⟨L, 0, none⟩ = some (.slice (some ⟨b, off, none⟩) ls.length cl) ∧ W.cell? ⟨b, off + k * 3, none⟩ = some (.int .i64 ls[k].task) ∧ W.cell? ⟨b, off + k * 3 + 1, none⟩ = some (.int .i64 ls[k].case_) ∧ W.cell? ⟨b, off + k * 3 + 2, none⟩ = some (.slice A' ls[k].vals.length c')) := Lib.hid (fun W hW =>
    ⟨(hW.cell (p := ⟨X, 0, none⟩) (World.block_lt_of_cell? _ _ hx)).trans hx, (hW.cell (p := ⟨L, 0, none⟩) (World.block_lt_of_cell? _ _ hl)).trans hl, (hW.cell (p := ⟨b, off + k * 3, none⟩) (World.block_lt_of_cell? _ _ y0)).trans y0, (hW.cell (p := ⟨b, off + k * 3 + 1, none⟩) (World.block_lt_of_cell? _ _ y1)).trans y1, (hW.cell (p := ⟨b, off + k * 3 + 2, none⟩) (World.block_lt_of_cell? _ _ y2)).trans y2⟩)
  have HRK := Lib.hid (fun (W : World) (hW : Below w.heap.size w W) => rank_any ls[k].vals hV ls[k].task ls[k].case_ A' c' B A c B rs W (hP.below' hW hB) (Nat.le_trans hB hW.size) (Rd.below' hr hW hB) (Nat.le_trans hB hW.size))
  unfold Ret at HRK ⊢
  generalize (rankR rs ls[k].vals).1 = r1 at HRK HAP
  generalize (rankR rs ls[k].vals).2 = r2 at HRK
  generalize ls[k].task = ta at *
  generalize ls[k].case_ = ca at *
  generalize ls[k].vals.length = vn at *
  clear hP hL hr hV y0 y1 y2 hx hl
  have hix := idx2 (.int .i64 r1) (.int .i64 r2)
  obtain ⟨cmp, hcm⟩ : ∃ b : Bool, b = decide (r1 < (rs.length : Int)) := ⟨_, rfl⟩
  have hcm2 := hcm.symm
  rw [← hcm] at HAP
  clear hcm
  go_enter Tryz.func22, Tryz.ntmps22
  go_upto_region 1 with fail
  have hB : Below w.heap.size w w.drew := below_drews _ _ 1
  go_region_held3 (fun W => W.cell? ⟨X, 0, none⟩ = some (.slice A rs.length c) ∧ W.cell? ⟨L, 0, none⟩ = some (.slice (some ⟨b, off, none⟩) ls.length cl) ∧ W.cell? ⟨b, off + k * 3, none⟩ = some (.int .i64 ta) ∧ W.cell? ⟨b, off + k * 3 + 1, none⟩ = some (.int .i64 ca) ∧ W.cell? ⟨b, off + k * 3 + 2, none⟩ = some (.slice A' vn c'))
    (first | exact HC.out _ hB | exact HC.out _ (below_drews _ _ 1))
    (first
    | (go_at_call 23; refine (HRK.out _ hB).mono ?_; rintro e W ⟨rfl, hb5⟩; replace hB := hB.trans (hb5.mono hB.size)))
  go_wp2_with fail
  go_ret
  exact ⟨by rw [HAP.out]; rfl, hB⟩
end Go.Proofs.YtkiilaajomjinaaGreatDoor

/- PolicyRules$2 and $3 (the opposite of $1, called through a box), walked. Conditions: as of $1. -/
namespace Go.Proofs.YtkiilaajomjinaaGreatDoor
open Go.RowKit
set_option maxRecDepth 100000 in
set_option maxHeartbeats 3200000 in
theorem not2_any (v : Bool) (k : Nat) (F X L : Nat) (w : World) (hf : w.cell? ⟨F, 0, none⟩ = some (.func (.func 22) #[] #[.pointer (some ⟨L, 0, none⟩), .pointer (some ⟨X, 0, none⟩)]))
    (hA : ∀ W, Below w.heap.size w W → Calls Tryz.prog 22 #[.int .i64 (k : Nat), .pointer (some ⟨L, 0, none⟩), .pointer (some ⟨X, 0, none⟩)] W (Ret (.bool v) W)) :
    Calls Tryz.prog 26 #[.int .i64 (k : Nat), .pointer (some ⟨F, 0, none⟩)] w (Ret (.bool (!v)) w) := by
  have HA := Lib.hid (hA w (Below.refl _ _))
  unfold Ret at HA ⊢
  clear hA
  go_enter Tryz.func26, Tryz.ntmps26
  go_wp2_with (go_at_call 22; refine HA.out.mono ?_; rintro e W ⟨rfl, hb5⟩)
  go_ret
  exact ⟨rfl, hb5⟩
set_option maxRecDepth 100000 in
set_option maxHeartbeats 3200000 in
theorem not3_any (v : Bool) (k : Nat) (F X L : Nat) (w : World) (hf : w.cell? ⟨F, 0, none⟩ = some (.func (.func 22) #[] #[.pointer (some ⟨L, 0, none⟩), .pointer (some ⟨X, 0, none⟩)]))
    (hA : ∀ W, Below w.heap.size w W → Calls Tryz.prog 22 #[.int .i64 (k : Nat), .pointer (some ⟨L, 0, none⟩), .pointer (some ⟨X, 0, none⟩)] W (Ret (.bool v) W)) :
    Calls Tryz.prog 27 #[.int .i64 (k : Nat), .pointer (some ⟨F, 0, none⟩)] w (Ret (.bool (!v)) w) := by
  have HA := Lib.hid (hA w (Below.refl _ _))
  unfold Ret at HA ⊢
  clear hA
  go_enter Tryz.func27, Tryz.ntmps27
  go_wp2_with (go_at_call 22; refine HA.out.mono ?_; rintro e W ⟨rfl, hb5⟩)
  go_ret
  exact ⟨rfl, hb5⟩
end Go.Proofs.YtkiilaajomjinaaGreatDoor

/- slices.IndexFunc of ints, walked, for a predicate that may make memory. Conditions: the row lies in memory; the predicate answers at each of its numbers. -/
namespace Go.Proofs.YtkiilaajomjinaaGreatDoor
open Go.RowKit
/-- What IndexFunc returns. -/
def IdxF (p : Nat → Bool) (xs : List Nat) (w : World) : Ending → World → Prop := fun e W => Below w.heap.size w W ∧
  ((e = .returned (.int .i64 (-1)) ∧ ∀ (q : Nat) (h : q < xs.length), p xs[q] = false) ∨ ∃ j : Nat, e = .returned (.int .i64 (j : Nat)) ∧ ∃ hj : j < xs.length, p xs[j] = true ∧ ∀ (q : Nat) (h : q < j), p (xs[q]'(by omega)) = false)
set_option maxRecDepth 100000 in
set_option maxHeartbeats 3200000 in
theorem idxF_any (g F : Nat) (eg : ∀ args w, (callFunc g args).run Tryz.prog w = .ok (.enter g args) w) (p : Nat → Bool) (b off cap : Nat) (xs : List Nat) (w : World) (hl : xs.length ≤ 9223372036854775807)
    (hc : ∀ (j : Nat) (h : j < xs.length), w.cell? ⟨b, off + j, none⟩ = some (.int .i64 (xs[j] : Nat)))
    (hp : ∀ W, Below w.heap.size w W → ∀ x ∈ xs, Calls Tryz.prog g #[.int .i64 (x : Nat), .pointer (some ⟨F, 0, none⟩)] W (Ret (.bool (p x)) W)) :
    Calls Tryz.prog 55 #[.slice (some ⟨b, off, none⟩) xs.length cap, .func (.func g) #[] #[.pointer (some ⟨F, 0, none⟩)]] w (IdxF p xs w) := by
  have HC := Lib.hid hc
  have HP := Lib.hid hp
  clear hc hp
  unfold IdxF
  go_enter Tryz.func55, Tryz.ntmps55
  go_wp2_with fail
  go_loopw [4, 8] (fun r i wr => r = .int .i64 0 ∧ ∃ j : Nat, i = .int .i64 (j : Nat) ∧ j ≤ xs.length ∧ Hid (Below w.heap.size w wr) ∧ Hid (∀ (q : Nat) (h : q < xs.length), q < j → p xs[q] = false)) (fun _ i _ => xs.length - (intOf i).toNat)
  case atStart => exact ⟨rfl, 0, rfl, Nat.zero_le _, Lib.hid (Below.refl _ _), Lib.hid (fun q _ h => by omega)⟩
  case round =>
    obtain ⟨rfl, j, rfl, hj, HB, HN⟩ := hrel
    have hj0 : (0 : Int) ≤ (j : Int) := by omega
    by_cases hlt : j < xs.length
    · have hd1 : decide ((j : Int) < (xs.length : Int)) = true := decide_eq_true (by omega)
      have hd2 : decide (j < xs.length) = true := decide_eq_true hlt
      have hjl : (j : Int) < (xs.length : Int) := by omega
      have hwr1 : IntKind.i64.wrap ((j : Int) + 1) = (j : Int) + 1 := by rw [IntKind.wrap_i64]; omega
      have hx := (HB.out.cell (p := ⟨b, off + j, none⟩) (World.block_lt_of_cell? _ _ (HC.out j hlt))).trans (HC.out j hlt)
      have hq := HP.out wr HB.out xs[j] (List.getElem_mem _)
      have HNX : Hid (p xs[j] = false → ∀ (q : Nat) (h : q < xs.length), q < j + 1 → p xs[q] = false) := Lib.hid (fun hf q h h2 => by
        by_cases e : q = j
        · subst e; exact hf
        · exact HN.out q h (by omega))
      have HYS : Hid (p xs[j] = true → ∃ hj : j < xs.length, p xs[j] = true ∧ ∀ (q : Nat) (h : q < j), p (xs[q]'(by omega)) = false) := Lib.hid (fun ht => ⟨hlt, ht, fun q h => HN.out q (by omega) h⟩)
      unfold Ret at hq
      generalize p xs[j] = pv at hq HNX HYS
      have HQ := Lib.hid hq
      clear hq
      cases pv with
      | true =>
        go_wp2_with fail
        refine HQ.out.mono ?_
        rintro e W5 ⟨rfl, hb5⟩
        have HB5 := Lib.hid (HB.out.trans (hb5.mono HB.out.size))
        clear hb5 hx
        go_wp2_with fail
        go_ret
        exact ⟨HB5.out, .inr ⟨j, rfl, HYS.out trivial⟩⟩
      | false =>
        go_wp2_with fail
        refine HQ.out.mono ?_
        rintro e W5 ⟨rfl, hb5⟩
        have HB5 := Lib.hid (HB.out.trans (hb5.mono HB.out.size))
        clear hb5 hx
        go_wp2_with fail
        exact ⟨⟨rfl, j + 1, by go_num, by omega, HB5, Lib.hid (HNX.out trivial)⟩, by simp [intOf]; omega⟩
    · have hd1 : decide ((j : Int) < (xs.length : Int)) = false := decide_eq_false (by omega)
      have hd2 : decide (j < xs.length) = false := decide_eq_false hlt
      go_wp2_with fail
      go_ret
      exact ⟨HB.out, .inl ⟨rfl, fun q h => HN.out q h (by omega)⟩⟩
end Go.Proofs.YtkiilaajomjinaaGreatDoor
