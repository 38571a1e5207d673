/- digraph's around and Cycle, walked: around finds some cycle if a successor leads back; where there is a ring Cycle's error is none. Conditions: the graph lies in memory; the edges are in range and ascending. -/
import Derived.Test.YtkpjdanfpolimaaGreatLsDi
import Derived.Test.YtkpjdanfpolimaaGreatLsDg5
set_option linter.unusedSimpArgs false
set_option maxRecDepth 100000
set_option maxHeartbeats 6400000
namespace Go.Proofs.YtkpjdanfpolimaaGreat
open Go.RowKit Go.Shelf Go.Sort
attribute [local go_sem] Oper.semAt_some
theorem rowIs_turn {W W' : World} {b t n : Nat} {f : Nat → Value} {row : Option Nat} (h : W.rowIs b t n f) (hg : W.grownBy W' row) (hr : ∀ k, row = some k → ∃ o : Obj, W.heap[k]? = some o ∧ o.isCells = false) : W'.rowIs b t n f := by
 refine h.of_block (hg.block _ h.lt (fun e => ?_))
 obtain ⟨o, ho, hc⟩ := hr b e.symm
 obtain ⟨c, hb, -⟩ := h
 rw [hb] at ho; injection ho with ho; subst ho; cases hc
/-- Only block X has turned, and new ones have come. -/
theorem only_trans {X : Nat} {A B C : World} {row : Option Nat} (h : A.grownBy B (some X)) (k : B.grownBy C row) (hr : ∀ j, row = some j → A.heap.size ≤ j) : A.grownBy C (some X) :=
 ⟨k.os.trans h.os, k.tape.trans h.tape, k.output.trans h.output, Nat.le_trans h.size k.size, fun j hj hX => (k.block j (Nat.lt_of_lt_of_le hj h.size) (fun e => by have := hr j e.symm; omega)).trans (h.block j hj hX)⟩
theorem only_set {X : Nat} {A B : World} (h : A.grownBy B (some X)) (x : Nat) (v : Value) : A.grownBy (B.setCell ⟨X, x, none⟩ v) (some X) :=
 ⟨h.os, h.tape, h.output, by simpa using h.size, fun j hj hX => (heap_setCell_other _ _ _ _ (fun e => hX (by rw [e]))).trans (h.block j hj hX)⟩
theorem only_below {X lo : Nat} {A B : World} (h : A.grownBy B (some X)) (hX : lo ≤ X) (hlo : lo ≤ A.heap.size) : Below lo A B :=
 ⟨h.os, h.tape, h.output, h.size, fun k hk => h.block k (by omega) (fun e => by injection e with e; omega)⟩
/-- What lies in memory once the distances are there. -/
structure Ac (M n N R D : Nat) (l : List (Nat × Nat)) (d : Nat → Int) (w W : World) : Prop where
 net : Net W M N n l
 gb : Bx W M [.int .i64 n, .slice (some ⟨N, 0, none⟩) n n]
 db : Bx W D [.slice (some ⟨R, 0, none⟩) n n]
 row : W.rowIs R 3 n (fun v => .int .i64 (d v))
 below : Below w.heap.size w W
 lo : M ≤ D
 lr : R ≤ D
 lw : M = w.heap.size
theorem Ac.next {M n N R D : Nat} {l : List (Nat × Nat)} {d : Nat → Int} {w W W' : World} (h : Ac M n N R D l d w W) (hb : Below (D + 1) W W') : Ac M n N R D l d w W' :=
 have h1 := h.lo
 have h2 := h.lr
 have h3 := h.lw
 ⟨h.net.below' hb (by omega), h.gb.below hb (by omega), h.db.below hb (by omega), h.row.of_block (hb.block R (by omega)), h.below.trans (hb.mono (by omega)), h.lo, h.lr, h.lw⟩
theorem around_any (n N u : Nat) (l : List (Nat × Nat)) (hn : n ≤ 200) (hl : l.length ≤ 2000) (hr : EdR n l) (hu : u < n) (w : World) (hN : Net w w.heap.size N n l) :
  Calls Tryz.prog 55 #[netV n N, .int .i64 u] w fun e W => ∃ (A : Option Addr) (m c : Nat), e = .returned (.slice A m c) ∧ ((∃ v, (u, v) ∈ l ∧ Way l v u) → 0 < m) ∧ Below w.heap.size w W := by
 obtain ⟨i0, hi, hz⟩ := Option.map_eq_some_iff.1 intInfo
 have hz0 : i0.zero = some (.int .i64 0) := congrArg (fun t => t.1) hz
 have hz1 : i0.size = 1 := congrArg (fun t => t.2.1) hz
 have hz2 : i0.bytes = 8 := congrArg (fun t => t.2.2) hz
 clear hz
 have HDI := Lib.hid (fun (W : World) (h : Net W W.heap.size N n l) => dist_any n N u l hn hl hr hu W h)
 unfold netV at HDI ⊢
 refine (callsIn_wide (n := 4)).1 (callsIn_of_wp_marks Tryz.func55 rfl trivial ?_ rfl)
 simp only [Tryz.ntmps55, List.size_toArray, List.length_cons, List.length_nil, Nat.reduceAdd, Nat.reduceSub, Array.replicate_succ, Array.replicate_zero, List.push_toArray, List.append_toArray, List.nil_append, List.cons_append]
 gi_upto_region 1 with fail
 have hba := below_alloc w (.cells #[.int .i64 n, .slice (some ⟨N, 0, none⟩) n n] 98)
 have hga := bx_new w #[.int .i64 n, .slice (some ⟨N, 0, none⟩) n n] 98
 have hza : (w.alloc (.cells #[.int .i64 n, .slice (some ⟨N, 0, none⟩) n n] 98)).heap.size = w.heap.size + 1 := by simp
 have hNa := hN.below' hba (Nat.le_refl _)
 have HD1 := Lib.hid (HDI.out _ (hNa.more (by omega)))
 clear HDI hN
 generalize w.alloc _ = wa at hba hga hza hNa HD1 ⊢
 generalize hMw : w.heap.size = M at hba hga hza hNa ⊢
 have g0 := hga 0 _ rfl
 have g1 := hga 1 _ rfl
 gi_wp2
 refine ⟨trivial, (callsIn_wide.2 HD1.out).mono ?_⟩
 rintro e W1 ⟨R, d, rfl, hRM, hrow, hd, hb1⟩
 have hz1' := hb1.size
 have hrl := hrow.lt
 have hb1w := hba.trans (hb1.mono (by omega))
 have hN1 := hNa.below' hb1 (by omega)
 have hg1 := hga.below hb1 (by omega)
 have HDD := Lib.hid hd
 clear g0 g1 hba hNa hga HD1 hb1 hd
 gi_upto_region 3 with fail
 have hbd : Below W1.heap.size W1 ((W1.alloc (.cells #[.slice (some ⟨R, 0, none⟩) n n] 27)).alloc (.cells #[.int .i64 (-1)] 3)) := (below_alloc _ _).trans (below_alloc2 (by simp) _)
 have h2 := two_new W1 #[.slice (some ⟨R, 0, none⟩) n n] #[.int .i64 (-1)] 27 3
 have hzd : ((W1.alloc (.cells #[.slice (some ⟨R, 0, none⟩) n n] 27)).alloc (.cells #[.int .i64 (-1)] 3)).heap.size = W1.heap.size + 2 := by simp
 have hLR : ((W1.alloc (.cells #[.slice (some ⟨R, 0, none⟩) n n] 27)).alloc (.cells #[.int .i64 (-1)] 3)).rowIs (W1.heap.size + 1) 3 1 (fun _ => .int .i64 (-1)) := by
  have := heap_alloc_new (W1.alloc (.cells #[.slice (some ⟨R, 0, none⟩) n n] 27)) (.cells #[.int .i64 (-1)] 3)
  rw [World.size_alloc] at this
  exact ⟨_, this, rfl, fun i hi => by
   obtain rfl : i = 0 := by omega
   rfl⟩
 have hD := h2.fst
 have hrow2 := hrow.of_block (hbd.block R hrl)
 have hN2 := hN1.below' hbd (by omega)
 have hg2 := hg1.below hbd (by omega)
 have hbw := hb1w.trans (hbd.mono (by omega))
 clear hrow hN1 hg1 h2 hb1w hbd
 generalize World.alloc _ _ = W2 at hLR hD hrow2 hN2 hg2 hbw hzd ⊢
 generalize W1.heap.size = D at hLR hD hrl hzd hz1' ⊢
 have g0 := hg2 0 _ rfl
 have g1 := hg2 1 _ rfl
 gi_wp2
 refine ⟨trivial, (callsIn_wide.2 (succ_any n N u W2)).mono ?_⟩
 rintro e W3 ⟨rfl, rfl⟩
 have hbS := succObjs_below n N u W2
 have hzS := succObjs_size n N u W2
 have hmS := succObjs_mem M n N u l W2 hN2 (by omega)
 have hLR3 := hLR.of_block (hbS.block _ (by omega))
 have hD3 := hD.below hbS (by omega)
 have hrow3 := hrow2.of_block (hbS.block R (by omega))
 have hN3 := hN2.below' hbS (by omega)
 have hg3 := hg2.below hbS (by omega)
 have hbw3 := hbw.trans (hbS.mono (by omega))
 clear hLR hD hrow2 hN2 hg2 hbw hbS g0 g1
 generalize succObjs n N u W2 = W3 at hzS hmS hLR3 hD3 hrow3 hN3 hg3 hbw3 ⊢
 rw [hzd] at hzS hmS ⊢
 obtain ⟨b0, hb0⟩ : ∃ b0, b0 = D + 2 := ⟨_, rfl⟩
 rw [← hb0] at hzS hmS ⊢
 have hb0D : D + 2 ≤ b0 := Nat.le_of_eq hb0.symm
 have hzb : b0 + 2 ≤ W3.heap.size := Nat.le_of_eq hzS.symm
 clear hb0 hzd hzS
 unfold succVal
 gi_wp2
 refine wpIn_rangeFunc_ac rfl (by omega) (gf := 75) (lb := #[.pointer (some ⟨b0, 0, none⟩), .pointer (some ⟨b0 + 1, 0, none⟩)]) rfl trivial (enters_of Tryz.func75 (by kernel_rfl) rfl)
  (succ_low 3 (by omega) M n N l b0 u (by omega) hu hl W3 hmS (by omega))
  (fun h k => h.trans k) (fun W l o o' _ hl hc _ => LowKept.putObj o' hl hc) (Below.refl _ _) (fun _ => rfl)
  (fun A' B' k o hab _ ho hc => hab ▸ ho)
  (fun pre W => (∃ lv : Int, -1 ≤ lv ∧ lv < n ∧ (∀ v ∈ pre, 0 ≤ d v → 0 ≤ lv) ∧ W.rowIs (D + 1) 3 1 (fun _ => .int .i64 lv)) ∧ W3.grownBy W (some (D + 1))) (fun _ _ _ => False)
  (fun pre W W' row hs hg hr => by
   obtain ⟨⟨lv, h0, h1, h2, h3⟩, h4⟩ := hs
   exact ⟨⟨lv, h0, h1, h2, rowIs_turn h3 hg (fun k e => (hr k e).2)⟩, only_trans h4 hg (fun j e => (hr j e).1)⟩)
  (fun _ => fun _ _ _ _ h _ _ => h)
  (fun pre A' B' hs hab => hab ▸ hs)
  ⟨⟨-1, by omega, by omega, fun _ hv => (by cases hv), hLR3⟩, World.grownBy.refl _ _⟩
  (fun x a' _ => a' = ⟨((.agg #[.int .i64 n, .slice (some ⟨N, 0, none⟩) n n] : Value) :: .int .i64 u :: .pointer (some ⟨M, 0, none⟩) :: undef :: .slice none 0 0 :: .pointer (some ⟨D, 0, none⟩) :: .pointer (some ⟨D + 1, 0, none⟩) :: .int .i64 (x : Nat) :: undef :: undef :: undef :: undef :: .agg #[.int .i64 n, .slice (some ⟨N, 0, none⟩) n n] :: .int .i64 u :: .slice (some ⟨R, 0, none⟩) n n :: .agg #[.int .i64 n, .slice (some ⟨N, 0, none⟩) n n] :: .int .i64 u :: .func (.func 75) #[] #[.pointer (some ⟨b0, 0, none⟩), .pointer (some ⟨b0 + 1, 0, none⟩)] :: .int .i64 (x : Nat) :: undef :: undef :: undef :: undef :: undef :: undef :: undef :: undef :: undef :: undef :: undef :: undef :: undef :: undef :: undef :: undef :: undef :: undef :: undef :: undef :: undef :: undef :: undef :: undef :: undef :: undef :: undef :: undef :: undef :: undef :: undef :: undef :: undef :: undef :: undef :: undef :: undef :: undef :: undef :: undef :: undef :: undef :: undef :: undef :: undef :: undef :: undef :: undef :: undef :: []).toArray, []⟩) (fun _ _ _ _ _ hs _ _ => hs) ?assign ?body ?done ?stop
 case assign =>
  rintro lp pre x W K hJ hK'
  gi_wp2
  exact hK' _ _ (KeepsFrom.refl _ _) (LowKept.refl _ _) hJ rfl
 case stop => rintro D c' pre W hD _ hno hK'; exact hno.elim
 case body =>
  rintro lp pre x a' W ⟨⟨lv, h0, h1, h2, h3⟩, h4⟩ rfl hpre
  have hxe : (u, x) ∈ l := mem_succs.1 (hpre.subset (by simp))
  have hxn : x < n := (hr _ hxe).2
  have hx0 : (0 : Int) ≤ (x : Int) := by omega
  have hx1 : (x : Int) < (n : Int) := by omega
  have cD := h4.cell (hD3 0 _ rfl) (fun e => by injection e with e; simp at e)
  have cx := h4.cell (hrow3.cell hxn) (fun e => by injection e with e; simp at e; omega)
  have cL := h3.cell (show 0 < 1 by omega)
  have fL := h3.frozen 0
  have hdn := HDD.out x hxn
  have KQ : ∀ nq, KeepsFrom W3.heap.size W (W.drewN nq) := fun nq => ⟨Nat.le_refl _, fun _ _ _ h _ => h⟩
  have LQ : ∀ nq, LowKept M W (W.drewN nq) := fun nq => ⟨Nat.le_refl _, fun _ _ _ _ _ h => h⟩
  have KQ := Lib.hid KQ
  have LQ := Lib.hid LQ
  have h4d : ∀ nq, W3.grownBy (W.drewN nq) (some (D + 1)) := fun nq => ⟨h4.os, h4.tape, h4.output, h4.size, h4.block⟩
  have HNS := Lib.hid (fun (nq : Nat) (hp : 0 ≤ d x → 0 ≤ lv) => (show (∃ lv : Int, -1 ≤ lv ∧ lv < n ∧ (∀ v ∈ pre ++ [x], 0 ≤ d v → 0 ≤ lv) ∧ (W.drewN nq).rowIs (D + 1) 3 1 (fun _ => .int .i64 lv)) ∧ W3.grownBy (W.drewN nq) (some (D + 1)) from
   ⟨⟨lv, h0, h1, fun v hv => by
    rcases List.mem_append.1 hv with z | z
    ·exact h2 v z
    ·have : v = x := by simpa using z
     subst this; exact hp, h3⟩, h4d nq⟩))
  have HST := Lib.hid (fun (nq : Nat) (hp : 0 ≤ d x) => (show (∃ lv : Int, -1 ≤ lv ∧ lv < n ∧ (∀ v ∈ pre ++ [x], 0 ≤ d v → 0 ≤ lv) ∧ ((W.drewN nq).setCell ⟨D + 1, 0, none⟩ (.int .i64 (d x))).rowIs (D + 1) 3 1 (fun _ => .int .i64 lv)) ∧ W3.grownBy ((W.drewN nq).setCell ⟨D + 1, 0, none⟩ (.int .i64 (d x))) (some (D + 1)) from
   ⟨⟨d x, hdn.1, hdn.2.1, fun _ _ _ => hp, World.rowIs.congr (World.rowIs.set (w := W.drewN nq) h3 0 (.int .i64 (d x))) (fun i hi => by rw [if_pos (by omega)])⟩, only_set (h4d nq) 0 _⟩))
  have HKS := Lib.hid (fun (nq : Nat) => (show KeepsFrom W3.heap.size W ((W.drewN nq).setCell ⟨D + 1, 0, none⟩ (.int .i64 (d x))) ∧ LowKept M W ((W.drewN nq).setCell ⟨D + 1, 0, none⟩ (.int .i64 (d x))) from
   ⟨(KQ.out nq).trans ((KeepsOthers.setCell _ _ _).from _), (LQ.out nq).trans ⟨by simp, fun k c e fr hk hc => (heap_setCell_other _ _ _ _ (by show k ≠ D + 1; omega)).trans hc⟩⟩))
  clear h2 h3 h4 h4d hdn
  gi_upto_region 5 with fail
  by_cases hdx : 0 ≤ d x
  ·have e1 : decide (0 ≤ d x) = true := decide_eq_true hdx
   by_cases hlv : lv < 0
   ·have e2 : decide (lv < 0) = true := decide_eq_true hlv
    refine wp_round_quiet (by kernel_rfl) (by kernel_rfl) (fun h => by obtain ⟨_, _, h⟩ := h; exact h) (by kernel_rfl) ?_
    repeat (go_big_quiet_step (fail))
    refine wpQuiet_nil ?_
    rintro _ ⟨nq, rfl⟩
    gi_wp2
    exact ⟨(HKS.out nq).1, (HKS.out nq).2, HST.out nq hdx⟩
   ·have e2 : decide (lv < 0) = false := decide_eq_false hlv
    by_cases hll : d x < lv
    ·have e3 : decide (d x < lv) = true := decide_eq_true hll
     refine wp_round_quiet (by kernel_rfl) (by kernel_rfl) (fun h => by obtain ⟨_, _, h⟩ := h; exact h) (by kernel_rfl) ?_
     repeat (go_big_quiet_step (fail))
     refine wpQuiet_nil ?_
     rintro _ ⟨nq, rfl⟩
     gi_wp2
     exact ⟨(HKS.out nq).1, (HKS.out nq).2, HST.out nq hdx⟩
    ·have e3 : decide (d x < lv) = false := decide_eq_false hll
     refine wp_round_quiet (by kernel_rfl) (by kernel_rfl) (fun h => by obtain ⟨_, _, h⟩ := h; exact h) (by kernel_rfl) ?_
     repeat (go_big_quiet_step (fail))
     refine wpQuiet_nil ?_
     rintro _ ⟨nq, rfl⟩
     gi_wp2
     exact ⟨KQ.out nq, LQ.out nq, HNS.out nq (fun _ => by omega)⟩
  ·have e1 : decide (0 ≤ d x) = false := decide_eq_false hdx
   refine wp_round_quiet (by kernel_rfl) (by kernel_rfl) (fun h => by obtain ⟨_, _, h⟩ := h; exact h) (by kernel_rfl) ?_
   repeat (go_big_quiet_step (fail))
   refine wpQuiet_nil ?_
   rintro _ ⟨nq, rfl⟩
   gi_wp2
   exact ⟨KQ.out nq, LQ.out nq, HNS.out nq (fun z => by omega)⟩
 case done =>
  rintro D1 ys W hD1 rfl ⟨⟨lv, h0, h1, h2, h3⟩, h4⟩ hKD
  have hAc : Ac M n N R D l d w W := Ac.next (W := W3) ⟨hN3, hg3, hD3, hrow3, hMw.symm ▸ hbw3, by omega, by omega, hMw.symm⟩ (only_below h4 (by omega) (by omega))
  have hsz := h4.size
  have hM5 := (Marks.nil (M + 1) W).push (D := D1) (by omega) (by simp) hKD
  have HLV := Lib.hid (fun (hx : ∃ v, (u, v) ∈ l ∧ Way l v u) => (show 0 ≤ lv from by
   obtain ⟨v, hv, hw⟩ := hx
   exact h2 v (mem_succs.2 hv) ((HDD.out v (hr _ hv).2).2.2 hw)))
  have cL := h3.cell (show 0 < 1 by omega)
  have hWl : D + 2 ≤ W.heap.size := by omega
  clear hN3 hg3 hD3 hrow3 hbw3 h4 hKD hLR3 hmS h2
  by_cases hlv : lv < 0
  ·have e1 : decide (lv < 0) = true := decide_eq_true hlv
   gi_wp2
   exact leaves_marks [D1] W hM5 (fun W' hT => ⟨_, results_tmp rfl _ _ _, none, 0, 0, rfl, fun hx => absurd (HLV.out hx) (by omega), hAc.below.trans ((hT.below hM5).mono (by omega))⟩)
  ·have e1 : decide (lv < 0) = false := decide_eq_false hlv
   have hlv0 : 0 ≤ lv := by omega
   gi_upto_region 10 with fail
   have hba := below_alloc W (.cells #[.int .i64 u] 3)
   have hown0 : (W.alloc (.cells #[.int .i64 u] 3)).ownsRow (D + 1) 3 1 (.slice (some ⟨W.heap.size, 0, none⟩) 1 1) [u].length (natC [u]) :=
    ⟨rfl, .inr ⟨W.heap.size, 1, #[.int .i64 u], rfl, by have := hAc.lo; omega, heap_alloc_new _ _, Nat.le_refl _, by unfold maxLen; omega, rfl, rfl⟩⟩
   have hza : W.heap.size + 1 ≤ (W.alloc (.cells #[.int .i64 u] 3)).heap.size := by simp
   have hA4 := hAc.next (hba.mono (by omega))
   have hM4 := hM5.below hba
   have cL4 := (hba.cell (block_lt_of_cell cL)).trans cL
   clear hM5 cL hba hAc hsz
   generalize W.alloc _ = W4 at hown0 hza hA4 hM4 cL4 ⊢
   generalize W.heap.size = O at hown0 hza hWl ⊢
   rename_i K hK
   refine (fun key : ∀ (X Y : Nat) (W' : World), ((W4.heap.size ≤ X ∧ W4.heap.size ≤ Y ∧ X ≠ Y) ∧ W'.heap[X]? = some (.cells #[.int .i64 u] 3 (0, 0)) ∧ W'.heap[Y]? = some (.cells #[.int .i64 lv] 3 (0, 0)) ∧ Below W4.heap.size W4 W') → K ((?fr : Nat → Nat → Act) X Y) W' => ?body) ?key
   case body =>
    refine wpIn_strict ?_
    refine wp_region_wide (S := fun w' => w'.cell? ⟨D + 1, 0, none⟩ = some (.int .i64 lv)) (by kernel_rfl) (by kernel_rfl) (fun h => by obtain ⟨_, _, h⟩ := h; exact h) cL4 (fun hHeld => ?_)
    have HKA : Hid (∀ (W : World) (o : Obj), W.cell? ⟨D + 1, 0, none⟩ = some (.int .i64 lv) → (W.alloc o).cell? ⟨D + 1, 0, none⟩ = some (.int .i64 lv)) := Lib.hid (fun W o h => ((below_alloc W o).cell (block_lt_of_cell h)).trans h)
    have HKB : Hid (∀ (o o' : Obj), ((W4.alloc o).alloc o').drew.cell? ⟨D + 1, 0, none⟩ = some (.int .i64 lv)) := Lib.hid (fun o o' => HKA.out (W4.alloc o) o' (HKA.out W4 o cL4))
    have HFA : Hid (∀ (o o' : Obj), ((W4.alloc o).alloc o').drew.heap[W4.heap.size]? = some o ∧ ((W4.alloc o).alloc o').drew.heap[W4.heap.size + 1]? = some o' ∧ Below W4.heap.size W4 ((W4.alloc o).alloc o').drew) := Lib.hid (fun o o' => ⟨(heap_alloc_old (W4.alloc o) o' (by simp)).trans (heap_alloc_new W4 o), by have := heap_alloc_new (W4.alloc o) o'; rwa [World.size_alloc] at this, ((below_alloc _ _).trans (below_alloc2 (by simp) _)).drew⟩)
    refine tkH (i := 0) rfl (fun _ _ _ h => h) ?_
    try simp only [frS, Act.put]
    refine tkH (i := 1) rfl (fun _ _ _ h => h) ?_
    try simp only [frS, Act.put]
    refine wpAnyH_ready (rs := [2, 3]) (by kernel_rfl) (by simp) ?_
    refine (AllReadyH.cons rfl (fun K hK => ?_) (AllReadyH.cons rfl (fun K hK => ?_) AllReadyH.nil))
    ·go_simp
     refine hK.out _ _ ?_ (fun hHeld => ?_)
     ·exact HKA.out _ _ hHeld
     clear hK K
     try simp only [frS, Act.put]
     refine rdH (i := 3) rfl fun K hK => ?_
     go_simp
     refine hK.out _ _ ?_ (fun hHeld => ?_)
     ·exact HKA.out _ _ hHeld
     clear hK K
     try simp only [frS, Act.put]
     refine rdH (i := 4) rfl fun K hK => ?_
     go_simp
     refine hK.out _ _ ?_ (fun hHeld => ?_)
     ·exact HKB.out _ _
     clear hK K
     try simp only [frS, Act.put]
     refine rdH (i := 5) rfl fun K hK => ?_
     go_simp
     refine hK.out _ _ ?_ (fun hHeld => ?_)
     ·exact HKB.out _ _
     clear hK K
     try simp only [frS, Act.put]
     refine wpAnyH_done (by kernel_rfl) ?_ _
     try dsimp only [Exit.then]
     obtain ⟨h1, h2, h3⟩ := HFA.out (.cells #[.int .i64 u] 3) (.cells #[.int .i64 lv] 3)
     generalize ((W4.alloc _).alloc _).drew = W at h1 h2 h3 ⊢
     obtain ⟨X, hX⟩ : ∃ X, X = W4.heap.size := ⟨_, rfl⟩
     obtain ⟨Y, hY⟩ : ∃ Y, Y = W4.heap.size + 1 := ⟨_, rfl⟩
     rw [← hY, ← hX]
     exact key X Y W ⟨⟨by omega, by omega, by omega⟩, by rw [hX]; exact h1, by rw [hY]; exact h2, h3⟩
    ·go_simp
     refine hK.out _ _ ?_ (fun hHeld => ?_)
     ·exact HKA.out _ _ hHeld
     clear hK K
     try simp only [frS, Act.put]
     refine rdH (i := 2) rfl fun K hK => ?_
     go_simp
     refine hK.out _ _ ?_ (fun hHeld => ?_)
     ·exact HKA.out _ _ hHeld
     clear hK K
     try simp only [frS, Act.put]
     refine rdH (i := 4) rfl fun K hK => ?_
     go_simp
     refine hK.out _ _ ?_ (fun hHeld => ?_)
     ·exact HKB.out _ _
     clear hK K
     try simp only [frS, Act.put]
     refine rdH (i := 5) rfl fun K hK => ?_
     go_simp
     refine hK.out _ _ ?_ (fun hHeld => ?_)
     ·exact HKB.out _ _
     clear hK K
     try simp only [frS, Act.put]
     refine wpAnyH_done (by kernel_rfl) ?_ _
     try dsimp only [Exit.then]
     obtain ⟨h1, h2, h3⟩ := HFA.out (.cells #[.int .i64 lv] 3) (.cells #[.int .i64 u] 3)
     generalize ((W4.alloc _).alloc _).drew = W at h1 h2 h3 ⊢
     obtain ⟨X, hX⟩ : ∃ X, X = W4.heap.size + 1 := ⟨_, rfl⟩
     obtain ⟨Y, hY⟩ : ∃ Y, Y = W4.heap.size := ⟨_, rfl⟩
     rw [← hX, ← hY]
     exact key X Y W ⟨⟨by omega, by omega, by omega⟩, by rw [hX]; exact h2, by rw [hY]; exact h1, h3⟩
   rintro X Y W5 ⟨⟨hX, hY, hXY⟩, hXo, hYo, hb5⟩
   refine hK _ _ ?_
   clear hK K cL4
   have hX5 : W5.rowIs X 3 1 (fun _ => .int .i64 u) := ⟨_, hXo, rfl, fun i hi => by
    obtain rfl : i = 0 := by omega
    rfl⟩
   have hY5 : W5.rowIs Y 3 1 (fun _ => .int .i64 lv) := ⟨_, hYo, rfl, fun i hi => by
    obtain rfl : i = 0 := by omega
    rfl⟩
   have hA5 := hA4.next (hb5.mono (by omega))
   have hM5 := hM4.below hb5
   have hown5 := own_next hown0 hb5
   have hz5 := hb5.size
   clear hXo hYo hb5 hM4 hA4 hown0
   gi_upto_region 12 with fail
   refine wpIn_loop_ghost (fun k a W => ∃ (Z X Y nw : Nat) (lf : Int) (xs : List Nat) (Ds : List Nat) (u8 u46 u47 u48 u49 u50 u59 u60 u62 u63 u64 u65 u66 u67 : Value), a = ⟨((.agg #[.int .i64 n, .slice (some ⟨N, 0, none⟩) n n] : Value) :: .int .i64 u :: .pointer (some ⟨M, 0, none⟩) :: undef :: .slice none 0 0 :: .pointer (some ⟨D, 0, none⟩) :: .pointer (some ⟨D + 1, 0, none⟩) :: undef :: u8 :: .pointer (some ⟨X, 0, none⟩) :: .pointer (some ⟨Y, 0, none⟩) :: undef :: .agg #[.int .i64 n, .slice (some ⟨N, 0, none⟩) n n] :: .int .i64 u :: .slice (some ⟨R, 0, none⟩) n n :: .agg #[.int .i64 n, .slice (some ⟨N, 0, none⟩) n n] :: .int .i64 u :: .func (.func 75) #[] #[.pointer (some ⟨b0, 0, none⟩), .pointer (some ⟨b0 + 1, 0, none⟩)] :: undef :: undef :: undef :: undef :: undef :: undef :: undef :: undef :: undef :: undef :: undef :: undef :: undef :: undef :: undef :: undef :: undef :: undef :: undef :: undef :: undef :: undef :: .int .i64 lv :: .bool false :: .int .i64 u :: .slice (some ⟨O, 0, none⟩) 1 1 :: .int .i64 u :: .int .i64 lv :: u46 :: u47 :: u48 :: u49 :: u50 :: undef :: undef :: undef :: undef :: undef :: undef :: undef :: undef :: u59 :: u60 :: undef :: u62 :: u63 :: u64 :: u65 :: u66 :: u67 :: []).toArray, Ds.map markD⟩ ∧ (k : Int) = lf ∧ (Z ≤ X ∧ Z ≤ Y ∧ X ≠ Y) ∧ nw < n ∧ 0 ≤ lf ∧ lf < n ∧ 1 ≤ xs.length ∧ (xs.length : Int) + lf ≤ n + 1 ∧ W.ownsRow (D + 1) 3 1 u8 xs.length (natC xs) ∧ (∀ g, u8.ownBlock = some g → g < Z) ∧ D + 2 ≤ Z ∧ W.rowIs X 3 1 (fun _ => .int .i64 (nw : Nat)) ∧ W.rowIs Y 3 1 (fun _ => .int .i64 lf) ∧ Ac M n N R D l d w W ∧ Marks (M + 1) Ds W) lv.toNat ?start ?round
   case start => exact ⟨W4.heap.size, X, Y, u, lv, [u], [D1], _, _, _, _, _, _, _, _, _, _, _, _, _, _, rfl, by omega, ⟨hX, hY, hXY⟩, hu, hlv0, h1, by simp, by simp; omega, hown5, fun g e => by have e : some O = some g := e; injection e with e; omega, by omega, hX5, hY5, hA5, hM5⟩
   case round =>
    clear hX5 hY5 hA5 hM5 hown5 hX hY hXY h3
    rintro k _ W ⟨Z, X, Y, nw, lf, xs, Ds, u8, u46, u47, u48, u49, u50, u59, u60, u62, u63, u64, u65, u66, u67, rfl, hkl, ⟨hX, hY, hXY⟩, hnw, hlf0, hlfn, hxs1, hxsl, hown, hoZ, hDZ, hXr, hYr, hA, hM⟩
    obtain ⟨A8, C8, rfl⟩ := own_form hown
    have cX := hXr.cell (show 0 < 1 by omega)
    have hXl := hXr.lt
    have hYl := hYr.lt
    have hMD := hA.lo
    have g0 := hA.gb 0 _ rfl
    have g1 := hA.gb 1 _ rfl
    gi_wp2
    refine ⟨trivial, (callsIn_wide.2 (succ_any n N nw W)).mono ?_⟩
    rintro e W6 ⟨rfl, rfl⟩
    have hbS := succObjs_below n N nw W
    have hzS : W.heap.size + 2 ≤ (succObjs n N nw W).heap.size := Nat.le_of_eq (succObjs_size n N nw W).symm
    have hmS := succObjs_mem M n N nw l W hA.net (by omega)
    have hA6 := hA.next (hbS.mono (by omega))
    have hM6 := hM.below hbS
    have hX6 := hXr.of_block (hbS.block _ hXl)
    have hY6 := hYr.of_block (hbS.block _ hYl)
    have hown6 := own_next hown hbS
    have hDs : ∀ D, D ∈ Ds → D < W.heap.size := fun D hD => (Array.getElem?_eq_some_iff.1 (hM.at_ D hD).2).1
    clear hA hM hXr hYr hown hbS g0 g1 cX
    generalize succObjs n N nw W = W6 at hzS hmS hA6 hM6 hX6 hY6 hown6 ⊢
    generalize W.heap.size = b1 at hzS hmS hDs hXl hYl ⊢
    unfold succVal
    gi_wp2
    refine wpIn_rangeFunc_ac rfl (by omega) (gf := 75) (lb := #[.pointer (some ⟨b1, 0, none⟩), .pointer (some ⟨b1 + 1, 0, none⟩)]) rfl trivial (enters_of Tryz.func75 (by kernel_rfl) rfl)
     (succ_low 3 (by omega) M n N l b1 nw (by omega) hnw hl W6 hmS (by omega))
     (fun h k => h.trans k) (fun W l o o' _ hl hc _ => LowKept.putObj o' hl hc) (Below.refl _ _) (fun _ => rfl)
     (fun A' B' k o hab _ ho hc => hab ▸ ho)
     (fun pre W => (∃ nv : Nat, nv < n ∧ W.rowIs X 3 1 (fun _ => .int .i64 (nv : Nat))) ∧ W6.grownBy W (some X))
     (fun c pre W => c = Code.exit 4 ∧ (∃ nv : Nat, nv < n ∧ W.rowIs X 3 1 (fun _ => .int .i64 (nv : Nat))) ∧ W6.grownBy W (some X))
     (fun pre W W' row hs hg hr => by
      obtain ⟨⟨nv, h0, h3⟩, h4⟩ := hs
      exact ⟨⟨nv, h0, rowIs_turn h3 hg (fun k e => (hr k e).2)⟩, only_trans h4 hg (fun j e => (hr j e).1)⟩)
     (fun c pre W W' row hs hg hr => by
      obtain ⟨hc, ⟨nv, h0, h3⟩, h4⟩ := hs
      exact ⟨hc, ⟨nv, h0, rowIs_turn h3 hg (fun k e => (hr k e).2)⟩, only_trans h4 hg (fun j e => (hr j e).1)⟩)
     (fun pre A' B' hs hab => hab ▸ hs)
     ⟨⟨nw, hnw, hX6⟩, World.grownBy.refl _ _⟩
     (fun x a' _ => a' = ⟨((.agg #[.int .i64 n, .slice (some ⟨N, 0, none⟩) n n] : Value) :: .int .i64 u :: .pointer (some ⟨M, 0, none⟩) :: undef :: .slice none 0 0 :: .pointer (some ⟨D, 0, none⟩) :: .pointer (some ⟨D + 1, 0, none⟩) :: undef :: .slice A8 xs.length C8 :: .pointer (some ⟨X, 0, none⟩) :: .pointer (some ⟨Y, 0, none⟩) :: .int .i64 (x : Nat) :: .agg #[.int .i64 n, .slice (some ⟨N, 0, none⟩) n n] :: .int .i64 u :: .slice (some ⟨R, 0, none⟩) n n :: .agg #[.int .i64 n, .slice (some ⟨N, 0, none⟩) n n] :: .int .i64 u :: .func (.func 75) #[] #[.pointer (some ⟨b0, 0, none⟩), .pointer (some ⟨b0 + 1, 0, none⟩)] :: undef :: undef :: undef :: undef :: undef :: undef :: undef :: undef :: undef :: undef :: undef :: undef :: undef :: undef :: undef :: undef :: undef :: undef :: undef :: undef :: undef :: undef :: .int .i64 lv :: .bool false :: .int .i64 u :: .slice (some ⟨O, 0, none⟩) 1 1 :: .int .i64 u :: .int .i64 lv :: u46 :: u47 :: .agg #[.int .i64 n, .slice (some ⟨N, 0, none⟩) n n] :: .int .i64 (nw : Nat) :: .func (.func 75) #[] #[.pointer (some ⟨b1, 0, none⟩), .pointer (some ⟨b1 + 1, 0, none⟩)] :: .int .i64 (x : Nat) :: undef :: undef :: undef :: undef :: undef :: undef :: undef :: u59 :: u60 :: undef :: u62 :: u63 :: u64 :: u65 :: u66 :: u67 :: []).toArray, []⟩) (fun _ _ _ _ _ hs _ _ => hs) ?assign ?body ?done ?stop
    case assign =>
     rintro lp pre x W K hJ hK'
     gi_wp2
     exact hK' _ _ (KeepsFrom.refl _ _) (LowKept.refl _ _) hJ rfl
    case body =>
     rintro lp pre x a' W ⟨⟨nv, h0, h3⟩, h4⟩ rfl hpre
     have hxe : (nw, x) ∈ l := mem_succs.1 (hpre.subset (by simp))
     have hxn : x < n := (hr _ hxe).2
     have hx0 : (0 : Int) ≤ (x : Int) := by omega
     have hx1 : (x : Int) < (n : Int) := by omega
     have hRD := hA6.lr
     have cD := h4.cell (hA6.db 0 _ rfl) (fun e => by injection e with e; simp at e; omega)
     have cx := h4.cell (hA6.row.cell hxn) (fun e => by injection e with e; simp at e; omega)
     have cY := h4.cell (hY6.cell (show 0 < 1 by omega)) (fun e => by injection e with e; simp at e; omega)
     have cX := h3.cell (show 0 < 1 by omega)
     have fX := h3.frozen 0
     have KQ := Lib.hid (fun nq => (show KeepsFrom W6.heap.size W (W.drewN nq) ∧ LowKept M W (W.drewN nq) from ⟨⟨Nat.le_refl _, fun _ _ _ h _ => h⟩, ⟨Nat.le_refl _, fun _ _ _ _ _ h => h⟩⟩))
     have h4d : ∀ nq, W6.grownBy (W.drewN nq) (some X) := fun nq => ⟨h4.os, h4.tape, h4.output, h4.size, h4.block⟩
     have HNS := Lib.hid (fun (nq : Nat) => (show (∃ nv : Nat, nv < n ∧ (W.drewN nq).rowIs X 3 1 (fun _ => .int .i64 (nv : Nat))) ∧ W6.grownBy (W.drewN nq) (some X) from ⟨⟨nv, h0, h3⟩, h4d nq⟩))
     have HST := Lib.hid (fun (nq : Nat) => (show (∃ nv : Nat, nv < n ∧ ((W.drewN nq).setCell ⟨X, 0, none⟩ (.int .i64 (x : Nat))).rowIs X 3 1 (fun _ => .int .i64 (nv : Nat))) ∧ W6.grownBy ((W.drewN nq).setCell ⟨X, 0, none⟩ (.int .i64 (x : Nat))) (some X) from
      ⟨⟨x, hxn, World.rowIs.congr (World.rowIs.set (w := W.drewN nq) h3 0 (.int .i64 (x : Nat))) (fun i hi => by rw [if_pos (by omega)])⟩, only_set (h4d nq) 0 _⟩))
     have HKS := Lib.hid (fun (nq : Nat) => (show KeepsFrom W6.heap.size W ((W.drewN nq).setCell ⟨X, 0, none⟩ (.int .i64 (x : Nat))) from (KQ.out nq).1.trans ((KeepsOthers.setCell _ _ _).from _)))
     clear h3 h4 h4d
     gi_upto_region 14 with fail
     by_cases hdx : d x = lf
     ·have e1 : (d x == lf) = true := by simpa using hdx
      refine wp_round_quiet (by kernel_rfl) (by kernel_rfl) (fun h => by obtain ⟨_, _, h⟩ := h; exact h) (by kernel_rfl) ?_
      repeat (go_big_quiet_step (fail))
      refine wpQuiet_nil ?_
      rintro _ ⟨nq, rfl⟩
      gi_wp2
      exact ⟨HKS.out nq, rfl, HST.out nq⟩
     ·have e1 : (d x == lf) = false := by simpa using hdx
      refine wp_round_quiet (by kernel_rfl) (by kernel_rfl) (fun h => by obtain ⟨_, _, h⟩ := h; exact h) (by kernel_rfl) ?_
      repeat (go_big_quiet_step (fail))
      refine wpQuiet_nil ?_
      rintro _ ⟨nq, rfl⟩
      gi_wp2
      exact ⟨(KQ.out nq).1, (KQ.out nq).2, HNS.out nq⟩
    case done =>
     rintro D2 ys W hD2 rfl ⟨⟨nv, h0, h3⟩, h4⟩ hKD
     have hA7 := hA6.next (only_below h4 (by omega) (by omega))
     have hY7 := hY6.of_block (h4.block Y (by omega) (fun e => by injection e with e; omega))
     have hoX : ∀ g, (Value.slice A8 xs.length C8).ownBlock = some g → g ≠ X ∧ g ≠ Y := fun g e => by have := hoZ g e; omega
     have hown7 := hown6.kept h4 (.inr (fun e => (hoX X e).1 rfl))
     have hM7 : Marks (M + 1) Ds W := hM6.keep (fun k o ho hc => (h4.block k (Array.getElem?_eq_some_iff.1 ho).1 (fun e => by
      injection e with e
      subst e
      obtain ⟨c, hb, -⟩ := hX6
      rw [hb] at ho; injection ho with ho; subst ho; cases hc)).trans ho)
     have hM8 := hM7.push (D := D2) (by omega) (fun hm => by have := hDs D2 hm; omega) hKD
     have cX := h3.cell (show 0 < 1 by omega)
     have cY := hY7.cell (show 0 < 1 by omega)
     have hs7 := h4.size
     have hXl7 := h3.lt
     have hYl7 := hY7.lt
     have HOX := Lib.hid hoX
     clear hA6 hY6 hown6 hM6 hM7 hmS h4 hKD hX6 hoX hoZ
     by_cases hl0 : lf = 0
     ·have e1 : (lf == 0) = true := by simpa using hl0
      gi_wp2
      exact leaves_marks (D2 :: Ds) W hM8 (fun W' hT => ⟨_, results_tmp rfl _ _ _, A8, xs.length, C8, rfl, fun _ => by omega, hA7.below.trans ((hT.below hM8).mono (by have := hA7.lw; omega))⟩)
     ·have e1 : (lf == 0) = false := by simpa using hl0
      have hbA := below_alloc W (.cells #[.int .i64 (nv : Int)] 3)
      have hA8 := hA7.next (hbA.mono (by omega))
      have hX8 := h3.alloc (.cells #[.int .i64 (nv : Int)] 3)
      have hY8 := hY7.alloc (.cells #[.int .i64 (nv : Int)] 3)
      have hM9 := hM8.below hbA
      have hown8 := hown7.alloc (.cells #[.int .i64 (nv : Int)] 3)
      have hs8 : W.heap.size ≤ (W.alloc (.cells #[.int .i64 (nv : Int)] 3)).heap.size := hbA.size
      have HA8 := Lib.hid hA8
      have HX8 := Lib.hid hX8
      have HY8 := Lib.hid hY8
      have HM9 := Lib.hid hM9
      clear hA7 h3 hY7 hM8 hA8 hX8 hY8 hM9 hbA
      gi_upto_region 19 with (gi_at_builtin; refine wpListIn_append_own _ rfl (.tmp 62) (.tmp 64) 27 rfl (D + 1) 3 i0 (.int .i64 0) 1 8 Tryz.underlying27 hi hz0 hz1 hz2 rfl (by decide) _ _ _ rfl hown8 ⟨W.heap.size, 0, none⟩ 1 1 [.int .i64 (nv : Int)] rfl rfl (cell_one_new _ _ _) (by simp [Value.oneCell']) (by unfold maxLen; omega) (by omega) (by omega) ?_; intro v9 W9 hown9 hg9 _; obtain ⟨A9, C9, rfl⟩ := own_form hown9)
      clear cX cY
      have hA9 := HA8.out.next (below_grownFrom hg9 (fun r e => (hown8.lt r e).1) (by omega))
      have hX9 := HX8.out.of_block (hg9.block X (by omega) (fun e => (HOX.out X e.symm).1 rfl))
      have hY9 := HY8.out.of_block (hg9.block Y (by omega) (fun e => (HOX.out Y e.symm).2 rfl))
      have hM10 : Marks (M + 1) (D2 :: Ds) W9 := HM9.out.keep fun q ob ho hc => (hg9.block q (Array.getElem?_eq_some_iff.1 ho).1 (fun e => by
       rcases hown8.2 with ⟨h9, -⟩ | ⟨g, cap, cur, h9, -, hg, -⟩
       ·rw [h9] at e; cases e
       ·rw [h9] at e; injection e with e; rw [e, hg] at ho; injection ho with ho; subst ho; cases hc)).trans ho
      have hown10 : W9.ownsRow (D + 1) 3 1 (.slice A9 (xs.length + 1) C9) (xs ++ [nv]).length (natC (xs ++ [nv])) := by rw [List.length_append, natC_push]; exact hown9
      have hs9 := hg9.size
      have cX := hX9.cell (show 0 < 1 by omega)
      have cY := hY9.cell (show 0 < 1 by omega)
      clear hown7 hown8 hown9 hg9 HA8 HX8 HY8 HM9 HOX hX9 hY9
      gi_upto_region 11 with fail
      have hb2 : Below W9.heap.size W9 ((W9.alloc (.cells #[.int .i64 (nv : Int)] 3)).alloc (.cells #[.int .i64 lf] 3)) := (below_alloc _ _).trans (below_alloc2 (by simp) _)
      have hXo := (heap_alloc_old (W9.alloc (.cells #[.int .i64 (nv : Int)] 3)) (.cells #[.int .i64 lf] 3) (show W9.heap.size < _ by simp)).trans (heap_alloc_new W9 (.cells #[.int .i64 (nv : Int)] 3))
      have hYo := heap_alloc_new (W9.alloc (.cells #[.int .i64 (nv : Int)] 3)) (.cells #[.int .i64 lf] 3)
      rw [World.size_alloc] at hYo
      clear cX cY
      generalize (W9.alloc _).alloc _ = W10 at hb2 hXo hYo ⊢
      have hX10 : W10.rowIs W9.heap.size 3 1 (fun _ => .int .i64 (nv : Int)) := ⟨_, hXo, rfl, fun i hi => by
       obtain rfl : i = 0 := by omega
       rfl⟩
      have hY10 : W10.rowIs (W9.heap.size + 1) 3 1 (fun _ => .int .i64 lf) := ⟨_, hYo, rfl, fun i hi => by
       obtain rfl : i = 0 := by omega
       rfl⟩
      have cY := hY10.cell (show 0 < 1 by omega)
      have fY := hY10.frozen 0
      have hwl : IntKind.i64.wrap (lf - 1) = lf - 1 := by rw [IntKind.wrap_i64]; omega
      have hb3 := hb2.setCell (p := ⟨W9.heap.size + 1, 0, none⟩) (by show W9.heap.size ≤ W9.heap.size + 1; omega) (.int .i64 (lf - 1))
      have hX11 : (W10.setCell ⟨W9.heap.size + 1, 0, none⟩ (.int .i64 (lf - 1))).rowIs W9.heap.size 3 1 (fun _ => .int .i64 (nv : Int)) := hX10.of_block (heap_setCell_other _ _ _ _ (by show W9.heap.size ≠ W9.heap.size + 1; omega))
      have hY11 := (hY10.set 0 (.int .i64 (lf - 1))).congr (g := fun _ => .int .i64 (lf - 1)) (fun i hi => by rw [if_pos (by omega)])
      have hA11 := hA9.next (hb3.mono (by omega))
      have hM11 := hM10.below hb3
      have hown11 := own_next hown10 hb3
      have hoB : ∀ g, (Value.slice A9 (xs.length + 1) C9).ownBlock = some g → g < W9.heap.size := fun g e => (hown10.lt g e).2
      clear hXo hYo hX10 hY10 hb2 hb3 hA9 hM10 hown10
      gi_wp2
      exact ⟨(lf - 1).toNat, by omega, W9.heap.size, W9.heap.size, W9.heap.size + 1, nv, lf - 1, xs ++ [nv], D2 :: Ds, _, _, _, _, _, _, _, _, _, _, _, _, _, _, rfl, by omega, ⟨by omega, by omega, by omega⟩, h0, by omega, by omega, by rw [List.length_append]; omega, by rw [List.length_append, List.length_singleton]; omega, hown11, hoB, by omega, hX11, hY11, hA11, hM11⟩
    case stop =>
     rintro D2 c' pre W hD2 - ⟨rfl, ⟨nv, h0, h3⟩, h4⟩ hKD
     have hA7 := hA6.next (only_below h4 (by omega) (by omega))
     have hY7 := hY6.of_block (h4.block Y (by omega) (fun e => by injection e with e; omega))
     have hoX : ∀ g, (Value.slice A8 xs.length C8).ownBlock = some g → g ≠ X ∧ g ≠ Y := fun g e => by have := hoZ g e; omega
     have hown7 := hown6.kept h4 (.inr (fun e => (hoX X e).1 rfl))
     have hM7 : Marks (M + 1) Ds W := hM6.keep (fun k o ho hc => (h4.block k (Array.getElem?_eq_some_iff.1 ho).1 (fun e => by
      injection e with e
      subst e
      obtain ⟨c, hb, -⟩ := hX6
      rw [hb] at ho; injection ho with ho; subst ho; cases hc)).trans ho)
     have hM8 := hM7.push (D := D2) (by omega) (fun hm => by have := hDs D2 hm; omega) hKD
     have cX := h3.cell (show 0 < 1 by omega)
     have cY := hY7.cell (show 0 < 1 by omega)
     have hs7 := h4.size
     have hXl7 := h3.lt
     have hYl7 := hY7.lt
     have HOX := Lib.hid hoX
     clear hA6 hY6 hown6 hM6 hM7 hmS h4 hKD hX6 hoX hoZ
     by_cases hl0 : lf = 0
     ·have e1 : (lf == 0) = true := by simpa using hl0
      gi_wp2
      exact leaves_marks (D2 :: Ds) W hM8 (fun W' hT => ⟨_, results_tmp rfl _ _ _, A8, xs.length, C8, rfl, fun _ => by omega, hA7.below.trans ((hT.below hM8).mono (by have := hA7.lw; omega))⟩)
     ·have e1 : (lf == 0) = false := by simpa using hl0
      have hbA := below_alloc W (.cells #[.int .i64 (nv : Int)] 3)
      have hA8 := hA7.next (hbA.mono (by omega))
      have hX8 := h3.alloc (.cells #[.int .i64 (nv : Int)] 3)
      have hY8 := hY7.alloc (.cells #[.int .i64 (nv : Int)] 3)
      have hM9 := hM8.below hbA
      have hown8 := hown7.alloc (.cells #[.int .i64 (nv : Int)] 3)
      have hs8 : W.heap.size ≤ (W.alloc (.cells #[.int .i64 (nv : Int)] 3)).heap.size := hbA.size
      have HA8 := Lib.hid hA8
      have HX8 := Lib.hid hX8
      have HY8 := Lib.hid hY8
      have HM9 := Lib.hid hM9
      clear hA7 h3 hY7 hM8 hA8 hX8 hY8 hM9 hbA
      gi_upto_region 19 with (gi_at_builtin; refine wpListIn_append_own _ rfl (.tmp 62) (.tmp 64) 27 rfl (D + 1) 3 i0 (.int .i64 0) 1 8 Tryz.underlying27 hi hz0 hz1 hz2 rfl (by decide) _ _ _ rfl hown8 ⟨W.heap.size, 0, none⟩ 1 1 [.int .i64 (nv : Int)] rfl rfl (cell_one_new _ _ _) (by simp [Value.oneCell']) (by unfold maxLen; omega) (by omega) (by omega) ?_; intro v9 W9 hown9 hg9 _; obtain ⟨A9, C9, rfl⟩ := own_form hown9)
      clear cX cY
      have hA9 := HA8.out.next (below_grownFrom hg9 (fun r e => (hown8.lt r e).1) (by omega))
      have hX9 := HX8.out.of_block (hg9.block X (by omega) (fun e => (HOX.out X e.symm).1 rfl))
      have hY9 := HY8.out.of_block (hg9.block Y (by omega) (fun e => (HOX.out Y e.symm).2 rfl))
      have hM10 : Marks (M + 1) (D2 :: Ds) W9 := HM9.out.keep fun q ob ho hc => (hg9.block q (Array.getElem?_eq_some_iff.1 ho).1 (fun e => by
       rcases hown8.2 with ⟨h9, -⟩ | ⟨g, cap, cur, h9, -, hg, -⟩
       ·rw [h9] at e; cases e
       ·rw [h9] at e; injection e with e; rw [e, hg] at ho; injection ho with ho; subst ho; cases hc)).trans ho
      have hown10 : W9.ownsRow (D + 1) 3 1 (.slice A9 (xs.length + 1) C9) (xs ++ [nv]).length (natC (xs ++ [nv])) := by rw [List.length_append, natC_push]; exact hown9
      have hs9 := hg9.size
      have cX := hX9.cell (show 0 < 1 by omega)
      have cY := hY9.cell (show 0 < 1 by omega)
      clear hown7 hown8 hown9 hg9 HA8 HX8 HY8 HM9 HOX hX9 hY9
      gi_upto_region 11 with fail
      have hb2 : Below W9.heap.size W9 ((W9.alloc (.cells #[.int .i64 (nv : Int)] 3)).alloc (.cells #[.int .i64 lf] 3)) := (below_alloc _ _).trans (below_alloc2 (by simp) _)
      have hXo := (heap_alloc_old (W9.alloc (.cells #[.int .i64 (nv : Int)] 3)) (.cells #[.int .i64 lf] 3) (show W9.heap.size < _ by simp)).trans (heap_alloc_new W9 (.cells #[.int .i64 (nv : Int)] 3))
      have hYo := heap_alloc_new (W9.alloc (.cells #[.int .i64 (nv : Int)] 3)) (.cells #[.int .i64 lf] 3)
      rw [World.size_alloc] at hYo
      clear cX cY
      generalize (W9.alloc _).alloc _ = W10 at hb2 hXo hYo ⊢
      have hX10 : W10.rowIs W9.heap.size 3 1 (fun _ => .int .i64 (nv : Int)) := ⟨_, hXo, rfl, fun i hi => by
       obtain rfl : i = 0 := by omega
       rfl⟩
      have hY10 : W10.rowIs (W9.heap.size + 1) 3 1 (fun _ => .int .i64 lf) := ⟨_, hYo, rfl, fun i hi => by
       obtain rfl : i = 0 := by omega
       rfl⟩
      have cY := hY10.cell (show 0 < 1 by omega)
      have fY := hY10.frozen 0
      have hwl : IntKind.i64.wrap (lf - 1) = lf - 1 := by rw [IntKind.wrap_i64]; omega
      have hb3 := hb2.setCell (p := ⟨W9.heap.size + 1, 0, none⟩) (by show W9.heap.size ≤ W9.heap.size + 1; omega) (.int .i64 (lf - 1))
      have hX11 : (W10.setCell ⟨W9.heap.size + 1, 0, none⟩ (.int .i64 (lf - 1))).rowIs W9.heap.size 3 1 (fun _ => .int .i64 (nv : Int)) := hX10.of_block (heap_setCell_other _ _ _ _ (by show W9.heap.size ≠ W9.heap.size + 1; omega))
      have hY11 := (hY10.set 0 (.int .i64 (lf - 1))).congr (g := fun _ => .int .i64 (lf - 1)) (fun i hi => by rw [if_pos (by omega)])
      have hA11 := hA9.next (hb3.mono (by omega))
      have hM11 := hM10.below hb3
      have hown11 := own_next hown10 hb3
      have hoB : ∀ g, (Value.slice A9 (xs.length + 1) C9).ownBlock = some g → g < W9.heap.size := fun g e => (hown10.lt g e).2
      clear hXo hYo hX10 hY10 hb2 hb3 hA9 hM10 hown10
      gi_wp2
      exact ⟨(lf - 1).toNat, by omega, W9.heap.size, W9.heap.size, W9.heap.size + 1, nv, lf - 1, xs ++ [nv], D2 :: Ds, _, _, _, _, _, _, _, _, _, _, _, _, _, _, rfl, by omega, ⟨by omega, by omega, by omega⟩, h0, by omega, by omega, by rw [List.length_append]; omega, by rw [List.length_append, List.length_singleton]; omega, hown11, hoB, by omega, hX11, hY11, hA11, hM11⟩
end Go.Proofs.YtkpjdanfpolimaaGreat
