/- lockorder's from: the order in which it yields. Conditions: the program lies in memory, it is valid. -/
import Derived.Test.YtkpjdanfpolimaaGreatLsWl
import Derived.Sort.QuietTacIn
import Derived.Sort.BigQuietIn
import Derived.Sort.CutIn
import Derived.Sort.LoopGhostIn
import Derived.Deep.OwnRows
set_option maxRecDepth 100000
set_option maxHeartbeats 6400000
namespace Go.Proofs.YtkpjdanfpolimaaGreat
open Go.RowKit Go.Shelf
attribute [local go_sem] Oper.semAt_some
/-- What an iterator does by itself: below B0 nothing turns, and no record but cells. -/
structure ItAb (B0 : Nat) (A B : World) : Prop where
 below : Below B0 A B
 rec_ : ∀ (k : Nat) (o : Obj), A.heap[k]? = some o → o.isCells = false → B.heap[k]? = some o
/-- What a round keeps: the cells that are no part of the analysis. -/
structure CellsKept (lo hi : Nat) (A B : World) : Prop where
 size : A.heap.size ≤ B.heap.size
 cells : ∀ (k : Nat) (c : Array Value) (e : TypeId) (fr : Nat × Nat), (k < lo ∨ hi ≤ k) → A.heap[k]? = some (.cells c e fr) → B.heap[k]? = some (.cells c e fr)
theorem ItAb.refl (B0 : Nat) (A : World) : ItAb B0 A A := ⟨Below.refl _ _, fun _ _ h _ => h⟩
theorem ItAb.trans {B0 : Nat} {A B C : World} (h1 : ItAb B0 A B) (h2 : ItAb B0 B C) : ItAb B0 A C := ⟨h1.below.trans h2.below, fun k o h hc => h2.rec_ k o (h1.rec_ k o h hc) hc⟩
theorem ItAb.of_below {B0 : Nat} {A B : World} (h : Below A.heap.size A B) (hB : B0 ≤ A.heap.size) : ItAb B0 A B := ⟨h.mono hB, fun k _ ho _ => (h.block k (Array.getElem?_eq_some_iff.1 ho).1).trans ho⟩
/-- A row of cells turns, and new blocks come. -/
theorem ItAb.of_grown {B0 g : Nat} {A B : World} (h : A.grownBy B (some g)) (hg : B0 ≤ g) (hB : B0 ≤ A.heap.size) (hc : ∀ o, A.heap[g]? = some o → o.isCells = true) : ItAb B0 A B :=
 ⟨⟨h.os, h.tape, h.output, h.size, fun k hk => h.block k (by omega) (by simp; omega)⟩, fun k o ho hn => by
  by_cases e : k = g
  ·subst e; rw [hc o ho] at hn; cases hn
  ·exact (h.block k (Array.getElem?_eq_some_iff.1 ho).1 (by simpa using e)).trans ho⟩
theorem Rd.impl {W W' : World} {B size n : Nat} {A : Option Addr} {xs : List Value} (h : Rd W B size A n xs) (hk : ∀ (b o : Nat) (v : Value), b < B → W.cell? ⟨b, o, none⟩ = some v → W'.cell? ⟨b, o, none⟩ = some v) : Rd W' B size A n xs := by
 refine ⟨h.1, ?_⟩
 rcases h.2 with h0 | ⟨b, o, e, hb, hc⟩
 ·exact .inl h0
 ·exact .inr ⟨b, o, e, hb, fun j u hu => hk _ _ _ hb (hc j u hu)⟩
theorem Lies.impl {W W' : World} {B : Nat} {p : Prg} (h : Lies W B p) (hk : ∀ (b o : Nat) (v : Value), b < B → W.cell? ⟨b, o, none⟩ = some v → W'.cell? ⟨b, o, none⟩ = some v) : Lies W' B p :=
 ⟨Rd.impl h.funs hk, Rd.impl h.obs hk, Rd.impl h.vrs hk, fun f hf => Rd.impl (h.code f hf) hk, fun f hf i hi => Rd.impl (h.args f hf i hi) hk, h.funN, h.obN, h.vrN, h.codeN, h.caps, h.argN, h.obNm, h.vrNm⟩
theorem CellsKept.cell {lo hi : Nat} {A B : World} (h : CellsKept lo hi A B) {b o : Nat} {v : Value} (ha : b < lo ∨ hi ≤ b) (hc : A.cell? ⟨b, o, none⟩ = some v) : B.cell? ⟨b, o, none⟩ = some v := by
 obtain ⟨c, e, fr, hb, _⟩ := Go.Sort.cells_of_cell? hc
 have hb' := h.cells b c e fr ha hb
 simp only [World.cell?, hb, hb'] at hc ⊢
 exact hc
/-- The memory that from's closure reads. -/
structure FromMem (p : Prg) (lo b0 : Nat) (f start : Nat) (stop : Int) (W : World) : Prop where
 prog : Lies W lo p
 pb : Bx W b0 [.slice p.funA p.funs.length p.funC, .slice p.obA p.obs.length p.obC, .slice p.vrA p.vrs.length p.vrC]
 fb : Bx W (b0 + 1) [.int .i64 f]
 sb : Bx W (b0 + 2) [.int .i64 start]
 eb : Bx W (b0 + 3) [.int .i64 stop]
theorem FromMem.kept {p : Prg} {lo hi b0 f start : Nat} {stop : Int} {W W' : World} (h : FromMem p lo b0 f start stop W) (hk : CellsKept lo hi W W') (hb : hi ≤ b0) : FromMem p lo b0 f start stop W' :=
 ⟨h.prog.impl fun _ _ _ hb' hc => hk.cell (.inl hb') hc, fun j v hv => hk.cell (.inr hb) (h.pb j v hv), fun j v hv => hk.cell (.inr (by omega)) (h.fb j v hv), fun j v hv => hk.cell (.inr (by omega)) (h.sb j v hv), fun j v hv => hk.cell (.inr (by omega)) (h.eb j v hv)⟩
theorem FromMem.below {p : Prg} {lo b0 f start B : Nat} {stop : Int} {W W' : World} (h : FromMem p lo b0 f start stop W) (hb : Below B W W') (hB : b0 + 4 ≤ B) (hlo : lo ≤ B) : FromMem p lo b0 f start stop W' :=
 ⟨h.prog.below (hb.mono hlo), h.pb.below hb (by omega), h.fb.below hb (by omega), h.sb.below hb (by omega), h.eb.below hb (by omega)⟩
/-- How many places have not been seen. -/
def unseen (n : Nat) (seen : List Nat) : Nat := ((List.range n).filter (fun j => decide (j ∉ seen))).length
theorem unseen_le (n : Nat) (seen : List Nat) : unseen n seen ≤ n := Nat.le_trans (List.length_filter_le _ _) (by rw [List.length_range]; omega)
theorem unseen_aux (seen : List Nat) (x : Nat) (hn : x ∉ seen) : ∀ l : List Nat, (l.filter (fun j => decide (j ∉ x :: seen))).length ≤ (l.filter (fun j => decide (j ∉ seen))).length ∧ (x ∈ l → (l.filter (fun j => decide (j ∉ x :: seen))).length < (l.filter (fun j => decide (j ∉ seen))).length) := by
 intro l
 induction l with
 | nil => exact ⟨Nat.le_refl _, fun h => by cases h⟩
 | cons y r ih =>
  obtain ⟨i1, i2⟩ := ih
  by_cases hy : y = x
  ·subst hy
   have e1 : decide (y ∉ y :: seen) = false := by simp
   have e2 : decide (y ∉ seen) = true := by simpa using hn
   rw [List.filter_cons, List.filter_cons, e1, e2]
   simp only [Bool.false_eq_true, if_false, if_true, List.length_cons]
   exact ⟨by omega, fun _ => by omega⟩
  ·have e1 : decide (y ∉ x :: seen) = decide (y ∉ seen) := by simp [hy]
   rw [List.filter_cons, List.filter_cons, e1]
   have hm : x ∈ y :: r → x ∈ r := fun h => (List.mem_cons.1 h).resolve_left (fun e => hy e.symm)
   cases decide (y ∉ seen) with
   | true => simp only [if_true, List.length_cons]; exact ⟨by omega, fun h => by have := i2 (hm h); omega⟩
   | false => simp only [Bool.false_eq_true, if_false]; exact ⟨i1, fun h => i2 (hm h)⟩
theorem unseen_lt {n : Nat} {seen : List Nat} {x : Nat} (hx : x < n) (hn : x ∉ seen) : unseen n (x :: seen) < unseen n seen := (unseen_aux seen x hn (List.range n)).2 (List.mem_range.2 hx)
theorem asc2_le (l : List Nat) : (asc2 l).length ≤ l.length := by
 unfold asc2
 split
 ·split
  ·simp
  ·split <;> simp
 ·exact Nat.le_refl _
theorem next_le (p : Prg) (f k : Nat) : (nextM p f k).length ≤ 2 := by
 refine Nat.le_trans (asc2_le _) (Nat.le_trans (List.length_filter_le _ _) ?_)
 unfold nextRaw
 split
 ·simp
 ·split
  ·simp
  ·split
   ·simp
   ·split <;> simp
/-- The worklist without its head. -/
theorem slice1 (g o1 : Nat) (l : List Nat) (cap : Nat) : ∃ cu, (∀ W, (Instr.slice 27 (.slice (some ⟨g, o1, none⟩) (l.length + 1) (cap + 1)) (some (.int .i64 1)) none none).run Tryz.prog W = .ok (.slice cu l.length cap) W) ∧
  ∀ W, Wl W (.slice (some ⟨g, o1 + 1, none⟩) l.length cap) g l → Wl W (.slice cu l.length cap) g l := by
 refine ⟨cutAddr (some ⟨g, o1, none⟩) (cap + 1) 1 1, fun W => run_slice_from (P := Tryz.prog) Tryz.underlying27 Tryz.sizeOf3 (some ⟨g, o1, none⟩) (n := l.length + 1) (cap := cap + 1) (l := 1) (by omega) .i64 W, fun W h => ?_⟩
 unfold cutAddr
 by_cases e : cap = 0
 ·subst e
  rw [if_pos rfl]
  obtain ⟨o2, c2, e1, h1, h2, h3, h4⟩ := h
  injection e1 with e3 e4 e5
  subst e5
  exact ⟨o1, 0, rfl, h1, h2, fun j hj => by omega, fun j hj => by omega⟩
 ·rw [if_neg (by omega)]
  simp only [Option.map_some, Nat.mul_one, addr_add]
  exact h
/-- What a slice of booleans tells of the places seen. -/
def seenF (seen : List Nat) (j : Nat) : Value := .bool (decide (j ∈ seen))
theorem from1_in (n : Nat) (hn : 1 ≤ n) (lY : Nat) (p : Prg) (hfit : Fits p) (hv : prgOk p) (lo hi b0 f start : Nat) (stop : Int) (hlo : lo ≤ hi) (hhi : hi ≤ b0) (hf : f < p.funs.length)
  (J Jx : List Nat → World → Prop) (hJ : ∀ s A B, J s A → ItAb (b0 + 4) A B → J s B)
  (hY : ∀ (pre : List Nat) (x : Nat) (W : World), J pre W → pre ++ [x] <+: fromL p f start stop → YieldAt Fence.wide (n - 1) Tryz.prog lY #[.int .i64 x] W fun e W' =>
   (e = .returned (.bool true) ∧ J (pre ++ [x]) W' ∧ CellsKept lo hi W W') ∨ (e = .returned (.bool false) ∧ Jx (pre ++ [x]) W'))
  (W : World) (hm : FromMem p lo b0 f start stop W) (hb : b0 + 4 ≤ W.heap.size) (h0 : J [] W) :
  CallsIn Fence.wide n Tryz.prog 144 #[.func (.yield lY) #[] #[], .pointer (some ⟨b0, 0, none⟩), .pointer (some ⟨b0 + 1, 0, none⟩), .pointer (some ⟨b0 + 2, 0, none⟩), .pointer (some ⟨b0 + 3, 0, none⟩)] W fun e W' => (∃ v, e = .returned v) ∧
   ((∃ ys, ys = fromL p f start stop ∧ J ys W') ∨ (∃ pre, True ∧ Jx pre W')) := by
 have hW := wf_of hv
 have hl200 := hW.len f hf
 obtain ⟨b, off, hA, hbl, -, d5⟩ := hm.prog.codeAt hf
 obtain ⟨x0, x1, x2⟩ := bx3 hm.pb
 have y0 := hm.fb 0 _ rfl
 have s0 := hm.sb 0 _ rfl
 have e0 := hm.eb 0 _ rfl
 rw [hA] at x0
 have f0 : (0 : Int) ≤ (f : Int) := by omega
 have f1 : (f : Int) < (p.funs.length : Int) := by omega
 have HNX := Lib.hid (fun (W : World) (h : Lies W W.heap.size p) (k : Nat) (hk : k < p.len f) => next_ok p hfit hv W h f k hf hk)
 have hmk := fun W => run_make_row' (P := Tryz.prog) 82 4 (.bool false) 1 Tryz.underlying82 (by kernel_rfl) rfl .i64 .i64 (p.len f) (by omega) (by omega) W
 have hval : p.val = .agg #[.slice (some ⟨b, off, none⟩) p.funs.length p.funC, .slice p.obA p.obs.length p.obC, .slice p.vrA p.vrs.length p.vrC] := by rw [Prg.val, hA]
 rw [hval] at HNX
 have HA := Lib.hid hA
 clear hval hA
 have hsz0 := hb
 refine callsIn_of_wp Tryz.func144 rfl trivial ?_ rfl
 simp only [Tryz.ntmps144, List.size_toArray, List.length_cons, List.length_nil, Nat.reduceAdd, Nat.reduceSub, Array.replicate_succ, Array.replicate_zero, List.push_toArray, List.append_toArray, List.nil_append, List.cons_append]
 gi_upto_region 2 with fail
 have hb1 := below_alloc W (.cells (madeCells #[Value.bool false] (p.len f)) 4)
 have hrow : (W.alloc (.cells (madeCells #[Value.bool false] (p.len f)) 4)).rowIs W.heap.size 4 (p.len f) (seenF []) := (World.rowIs_made W (.bool false) (p.len f) 4).congr (fun i _ => rfl)
 have hm1 := hm.below hb1 hb (by omega)
 have hJ1 := hJ _ _ _ h0 (ItAb.of_below hb1 hb)
 have hz1 : W.heap.size < (W.alloc (.cells (madeCells #[Value.bool false] (p.len f)) 4)).heap.size := by simp
 clear hm h0 hb1 x0 x1 x2 y0 s0 e0 d5 hmk
 generalize W.alloc _ = W1 at hrow hm1 hJ1 hz1 ⊢
 generalize W.heap.size = q at hrow hz1 hb hsz0 ⊢
 have s0 := hm1.sb 0 _ rfl
 gi_wp2
 have hb2 := below_alloc W1 (.cells #[Value.int .i64 (start : Int)] 3)
 have hwl : Wl (W1.alloc (.cells #[Value.int .i64 (start : Int)] 3)) (.slice (some ⟨W1.heap.size, 0, none⟩) 1 1) W1.heap.size [start] := by
  refine ⟨0, 1, rfl, by simp, by unfold maxLen; omega, fun j hj => ?_, fun j hj => ?_⟩
  ·have : j = 0 := by simpa using hj
   subst this; simp
  ·have : j = 0 := by omega
   subst this; simp
 have hrow2 := hrow.alloc (.cells #[Value.int .i64 (start : Int)] 3)
 have hm2 := hm1.below hb2 (by omega) (by omega)
 have hJ2 := hJ _ _ _ hJ1 (ItAb.of_below hb2 (by omega))
 have hz2 : W1.heap.size < (W1.alloc (.cells #[Value.int .i64 (start : Int)] 3)).heap.size := by simp
 clear hb2 hrow hm1 hJ1 s0
 generalize W1.alloc _ = W2 at hwl hrow2 hm2 hJ2 hz2 ⊢
 generalize W1.heap.size = g0 at hwl hz2 hz1 ⊢
 gi_loopg [8] (3 * unseen (p.len f) [] + 1) (fun k v wr => ∃ (pre seen l : List Nat) (m g : Nat), k = 3 * unseen (p.len f) seen + l.length ∧ Hid (pre ++ fromM p f stop m seen l = fromL p f start stop) ∧ k ≤ m ∧ m ≤ 700 ∧ J pre wr ∧ FromMem p lo b0 f start stop wr ∧ wr.rowIs q 4 (p.len f) (seenF seen) ∧ Wl wr v g l ∧ q < g ∧ g < wr.heap.size)
 case atStart => exact ⟨[], [], [start], 3 * p.len f + 2, g0, rfl, Lib.hid rfl, by have := unseen_le (p.len f) []; omega, by omega, hJ2, hm2, hrow2, hwl, hz1, hz2⟩
 case round =>
  obtain ⟨pre, seen, l, m, g, hk, HE, hkm, hm7, hj, hmm, hro, hwl, hqg, hgz⟩ := hrel
  match l, hwl, hk, HE with
  | [], hwl, hk, HE =>
   obtain ⟨o1, cap, rfl, -, -, -, -⟩ := hwl
   have HE2 : Hid (pre = fromL p f start stop) := by show _ = _; rw [← HE.out]; cases m <;> simp [fromM]
   clear HE
   gi_wp2
   go_end0
   exact ⟨⟨_, rfl⟩, .inl ⟨pre, HE2.out, hj⟩⟩
  | x :: l, hwl, hk, HE =>
   have HWF := Lib.hid hwl
   obtain ⟨o1, cap, rfl, hx0, hwl⟩ := hwl.tail
   rw [List.length_cons] at hk
   obtain ⟨m, rfl⟩ : ∃ m', m = m' + 1 := ⟨m - 1, by omega⟩
   obtain ⟨cu, hsl, hcl⟩ := slice1 g o1 l cap
   have hg1 : decide ((0 : Int) < ((l.length + 1 : Nat) : Int)) = true := decide_eq_true (by omega)
   have e0 := hmm.eb 0 _ rfl
   have hx0' : (0 : Int) ≤ (x : Int) := by omega
   have HCL := Lib.hid hcl
   clear hcl
   by_cases hge : p.len f ≤ x
   ·have HE2 : Hid (pre ++ fromM p f stop m seen l = fromL p f start stop) := by show _ = _; rw [← HE.out, fromM, if_pos (.inl hge)]
    have d1 : decide ((p.len f : Int) ≤ (x : Int)) = true := decide_eq_true (by omega)
    have d2 : decide (p.len f ≤ x) = true := decide_eq_true hge
    clear hge
    clear HE
    gi_wp2
    gi_roundg (3 * unseen (p.len f) seen + l.length)
    case measure => omega
    case rel => exact ⟨pre, seen, l, m, g, rfl, HE2, by omega, by omega, hj, hmm, hro, HCL.out _ hwl, hqg, hgz⟩
   ·have d1 : decide ((p.len f : Int) ≤ (x : Int)) = false := decide_eq_false (by omega)
    have d2 : decide (p.len f ≤ x) = false := decide_eq_false hge
    have hxl : (x : Int) < (p.len f : Int) := by omega
    have hxn : x < p.len f := by omega
    clear hge
    by_cases hst2 : (x : Int) = stop
    ·have HE2 : Hid (pre ++ fromM p f stop m seen l = fromL p f start stop) := by show _ = _; rw [← HE.out, fromM, if_pos (.inr (.inl hst2))]
     have d3 : ((x : Int) == stop) = true := by simpa using hst2
     clear hst2
     clear HE
     gi_wp2
     gi_roundg (3 * unseen (p.len f) seen + l.length)
     case measure => omega
     case rel => exact ⟨pre, seen, l, m, g, rfl, HE2, by omega, by omega, hj, hmm, hro, HCL.out _ hwl, hqg, hgz⟩
    ·have d3 : ((x : Int) == stop) = false := by simpa using hst2
     have hc0 := hro.cell hxn
     by_cases hse : x ∈ seen
     ·have HE2 : Hid (pre ++ fromM p f stop m seen l = fromL p f start stop) := by show _ = _; rw [← HE.out, fromM, if_pos (.inr (.inr hse))]
      have hcs : seenF seen x = .bool true := by simp [seenF, hse]
      rw [hcs] at hc0
      clear hcs hse
      clear HE
      gi_wp2
      gi_roundg (3 * unseen (p.len f) seen + l.length)
      case measure => omega
      case rel => exact ⟨pre, seen, l, m, g, rfl, HE2, by omega, by omega, hj, hmm, hro, HCL.out _ hwl, hqg, hgz⟩
     ·have HE2 : Hid (pre ++ x :: fromM p f stop m (x :: seen) (l ++ nextM p f x) = fromL p f start stop) := by show _ = _; rw [← HE.out, fromM, if_neg (by intro e; rcases e with e | e | e; exact absurd e (by omega); exact hst2 e; exact hse e)]
      have hcs : seenF seen x = .bool false := by simp [seenF, hse]
      rw [hcs] at hc0
      have hfz := hro.frozen x
      have hun := unseen_lt hxn hse
      have hnl := next_le p f x
      have hro2 := (hro.set x (.bool true)).congr (g := seenF (x :: seen)) (fun i _ => by
       by_cases e : i = x
       ·subst e; simp [seenF]
       ·simp [seenF, e])
      clear HE hst2 hcs hse
      gi_upto_region 8 with fail
      have hab : ItAb (b0 + 4) wr (wr.setCell ⟨q, x, none⟩ (.bool true)) := by
       obtain ⟨cq, hq, -, -⟩ := hro
       exact ItAb.of_grown (g := q) ⟨rfl, rfl, rfl, by simp, fun k _ hne => heap_setCell_other _ _ _ _ (fun e => hne (by rw [e]))⟩ hb (by omega) (fun o ho => by rw [hq] at ho; injection ho with ho; subst ho; rfl)
      have hmm2 := hmm.below hab.below (by omega) (by omega)
      have hj2 := hJ _ _ _ hj hab
      have hwl2 : Wl (wr.setCell ⟨q, x, none⟩ (.bool true)) (.slice (some ⟨g, o1, none⟩) (l.length + 1) (cap + 1)) g (x :: l) := HWF.out.same fun _ _ _ e => (heap_setCell_other _ _ _ _ (by show g ≠ q; omega)).trans e
      have hgz2 : g < (wr.setCell ⟨q, x, none⟩ (.bool true)).heap.size := by simpa using hgz
      have hx2 : (wr.setCell ⟨q, x, none⟩ (.bool true)).cell? ⟨g, o1, none⟩ = some (.int .i64 x) := (World.cell?_setCell_far _ _ _ _ (by show q ≠ g; omega)).trans hx0
      clear hc0 hfz hro hmm hj hwl hgz e0 hab hx0
      generalize wr.setCell ⟨q, x, none⟩ (.bool true) = W3 at hro2 hmm2 hj2 hwl2 hgz2 hx2 ⊢
      obtain ⟨fn, tmps, assign, body, hy2, hR2⟩ := hY pre x W3 hj2 (by rw [← HE2.out]; exact ⟨fromM p f stop m (x :: seen) (l ++ nextM p f x), by simp⟩)
      gi_wp2
      refine hR2.mono ?_
      rintro e W4 (⟨rfl, hj4, hk4⟩ | ⟨rfl, hjx⟩)
      ·have hmm4 := hmm2.kept hk4 hhi
       have hwl4 : Wl W4 (.slice (some ⟨g, o1, none⟩) (l.length + 1) (cap + 1)) g (x :: l) := hwl2.same fun c e fr h => hk4.cells g c e fr (.inr (by omega)) h
       have hro4 : W4.rowIs q 4 (p.len f) (seenF (x :: seen)) := by
        obtain ⟨cq, h1, h2, h3⟩ := hro2
        exact ⟨cq, hk4.cells q _ _ _ (.inr (by omega)) h1, h2, h3⟩
       have hgz4 : g < W4.heap.size := Nat.lt_of_lt_of_le hgz2 hk4.size
       clear hmm2 hwl2 hro2 hk4 hj2 hx2 hY
       obtain ⟨x0, x1, x2⟩ := bx3 hmm4.pb
       have y0 := hmm4.fb 0 _ rfl
       rw [HA.out] at x0
       have HNX2 := Lib.hid (HNX.out W4 (hmm4.prog.more (by omega)) x hxn)
       gi_wp2
       refine ⟨trivial, (callsIn_wide.2 HNX2.out).mono ?_⟩
       rintro e W5 ⟨A5, c5, rfl, hrd5, -, hb5⟩
       have hmm5 := hmm4.below hb5 (by omega) (by omega)
       have hwl5 := hwl4.below hb5 hgz4
       have hro5 : W5.rowIs q 4 (p.len f) (seenF (x :: seen)) := hro4.of_block (hb5.block q (by omega))
       have hj5 := hJ _ _ _ hj4 (ItAb.of_below hb5 (by omega))
       have hgz5 : g < W5.heap.size := Nat.lt_of_lt_of_le hgz4 hb5.size
       have hsz5 : b0 + 4 ≤ W5.heap.size := by omega
       have hnn : (nats (nextM p f x)).length = (nextM p f x).length := by simp [nats]
       rw [hnn] at hrd5 ⊢
       clear hnn hmm4 hwl4 hro4 hj4 hgz4 hb5 x0 x1 x2 y0 hsl hg1
       generalize nextM p f x = nx at hrd5 hnl HE2 ⊢
       have hll : (x :: l).length + nx.length ≤ 100000 := by rw [List.length_cons]; omega
       gi_wp2_with (gi_at_builtin; refine wpListIn_append_wl rfl (.tmp 51) (.tmp 55) rfl rfl hwl5 A5 c5 rfl hrd5 hgz5 hll ?_; intro v6 g6 W6 hwl6 hg6 hgz6 hgr6; obtain ⟨ln, hln⟩ : ∃ ln, l ++ nx = ln := ⟨_, rfl⟩; rw [List.cons_append, hln] at hwl6; obtain ⟨o6, cap6, rfl, hx6, hwl6⟩ := hwl6.tail; obtain ⟨cu6, hsl6, hcl6⟩ := slice1 g6 o6 ln cap6; have HCL6 := Lib.hid hcl6; have HLN := Lib.hid hln; clear hcl6 hln)
       have hlen6 : ln.length = l.length + nx.length := by rw [← HLN.out]; exact List.length_append
       have hE3 : Hid ((pre ++ [x]) ++ fromM p f stop m (x :: seen) ln = fromL p f start stop) := by show _ = _; rw [← HE2.out, ← HLN.out]; simp
       have hab6 : ItAb (b0 + 4) W5 W6 := ItAb.of_grown hgr6 (by omega) hsz5 (fun o ho => by
        obtain ⟨o7, c7, e7, -, -, hc7, -⟩ := hwl5
        obtain ⟨cc, ee, ff, hb7, -⟩ := Go.Sort.cells_of_cell? (hc7 0 (by simp))
        rw [hb7] at ho; injection ho with ho; subst ho; rfl)
       have hj6 := hJ _ _ _ hj5 hab6
       have hmm6 := hmm5.below hab6.below (by omega) (by omega)
       have hro6 : W6.rowIs q 4 (p.len f) (seenF (x :: seen)) := hro5.of_block (hgr6.block q (by omega) (by simp; omega))
       have hqg6 : q < g6 := by omega
       gi_roundg (3 * unseen (p.len f) (x :: seen) + ln.length)
       case measure => omega
       case rel => exact ⟨pre ++ [x], x :: seen, ln, m, g6, rfl, hE3, by omega, by omega, hj6, hmm6, hro6, HCL6.out _ hwl6, hqg6, hgz6⟩
      ·gi_wp2
       refine bodyPost_ret (results_none rfl _ _ _) rfl ?_
       exact ⟨⟨_, rfl⟩, .inr ⟨_, trivial, hjx⟩⟩
/-- from's value as the range law takes it. -/
theorem from_stops (n : Nat) (hn : 1 ≤ n) (p : Prg) (hfit : Fits p) (hv : prgOk p) (lo hi b0 f start : Nat) (stop : Int) (hlo : lo ≤ hi) (hhi : hi ≤ b0) (hf : f < p.funs.length) (w : World) (hm : FromMem p lo b0 f start stop w) (hb : b0 + 4 ≤ w.heap.size) :
  SeqAc Fence.wide n Tryz.prog 144 #[.pointer (some ⟨b0, 0, none⟩), .pointer (some ⟨b0 + 1, 0, none⟩), .pointer (some ⟨b0 + 2, 0, none⟩), .pointer (some ⟨b0 + 3, 0, none⟩)] (fun x : Nat => #[.int .i64 x]) (ItAb (b0 + 4)) (CellsKept lo hi) (fun ys => ys = fromL p f start stop) (fun _ => True) (fun pre x => pre ++ [x] <+: fromL p f start stop) w := fun l J Jx W hW hJ hY h0 =>
 from1_in n hn l p hfit hv lo hi b0 f start stop hlo hhi hf J Jx hJ hY W (hm.below hW hb (by omega)) (Nat.le_trans hb hW.size) h0
/-- The boxes that from lays. -/
def fromObjs (p : Prg) (f start : Nat) (stop : Int) (w : World) : World :=
 (((w.alloc (.cells #[.slice p.funA p.funs.length p.funC, .slice p.obA p.obs.length p.obC, .slice p.vrA p.vrs.length p.vrC] 26)).alloc (.cells #[.int .i64 f] 3)).alloc (.cells #[.int .i64 start] 3)).alloc (.cells #[.int .i64 stop] 3)
theorem fromObjs_below (p : Prg) (f start : Nat) (stop : Int) (w : World) : Below w.heap.size w (fromObjs p f start stop w) :=
 (((below_alloc _ _).trans (below_alloc2 (by simp) _)).trans (below_alloc2 (by simp; omega) _)).trans (below_alloc2 (by simp; omega) _)
theorem fromObjs_size (p : Prg) (f start : Nat) (stop : Int) (w : World) : (fromObjs p f start stop w).heap.size = w.heap.size + 4 := by simp [fromObjs]
theorem fromObjs_mem (p : Prg) (lo f start : Nat) (stop : Int) (w : World) (h : Lies w lo p) (hlo : lo ≤ w.heap.size) : FromMem p lo w.heap.size f start stop (fromObjs p f start stop w) := by
 have h3 := three_new w #[.slice p.funA p.funs.length p.funC, .slice p.obA p.obs.length p.obC, .slice p.vrA p.vrs.length p.vrC] #[.int .i64 f] #[.int .i64 start] 26 3 3
 have h4 := h3.next (below_alloc _ (.cells #[.int .i64 stop] 3))
 have h5 := bx_new ((((w.alloc (.cells #[.slice p.funA p.funs.length p.funC, .slice p.obA p.obs.length p.obC, .slice p.vrA p.vrs.length p.vrC] 26)).alloc (.cells #[.int .i64 f] 3)).alloc (.cells #[.int .i64 start] 3))) #[.int .i64 stop] 3
 refine ⟨h.below ((fromObjs_below p f start stop w).mono hlo), h4.two.fst, h4.two.snd, h4.thd, ?_⟩
 have e : ((((w.alloc (.cells #[.slice p.funA p.funs.length p.funC, .slice p.obA p.obs.length p.obC, .slice p.vrA p.vrs.length p.vrC] 26)).alloc (.cells #[.int .i64 f] 3)).alloc (.cells #[.int .i64 start] 3))).heap.size = w.heap.size + 3 := by simp
 rw [e] at h5
 exact h5
/-- from's value. -/
def fromVal (b0 : Nat) : Value := .func (.func 144) #[] #[.pointer (some ⟨b0, 0, none⟩), .pointer (some ⟨b0 + 1, 0, none⟩), .pointer (some ⟨b0 + 2, 0, none⟩), .pointer (some ⟨b0 + 3, 0, none⟩)]
theorem from_any (p : Prg) (f start : Nat) (stop : Int) (w : World) :
  Calls Tryz.prog 128 #[p.val, .int .i64 f, .int .i64 start, .int .i64 stop] w fun e W => e = .returned (fromVal w.heap.size) ∧ W = fromObjs p f start stop w := by
 unfold Prg.val
 go_enter Tryz.func128, Tryz.ntmps128
 go_wp2_with fail
 go_ret
 exact ⟨rfl, rfl⟩
end Go.Proofs.YtkpjdanfpolimaaGreat
