/- The analysis' state in memory, and how a place of it grows. Conditions: none. · lockorder's reach and enter, walked. Conditions: the analysis lies in memory, the places exist. · program.Check of a valid program, walked. Conditions: the program lies in memory, it is valid. -/
import Derived.Test.YtkpjdanfpolimaaGreatLsOpn
import Derived.Test.YtkpjdanfpolimaaGreatLsRefOb
import Derived.Deep.RegionHeld
import Derived.StillTailTactics
import Derived.Test.YtkpjdanfpolimaaGreatLsCfn
import Derived.Test.YtkpjdanfpolimaaGreatLsVar
set_option maxRecDepth 100000
set_option maxHeartbeats 6400000
section
namespace Go.Proofs.YtkpjdanfpolimaaGreat
open Go.RowKit
/-- Where the analysis lies. -/
structure Lay where
 lo : Nat
 hi : Nat
 A : Nat
 E : Nat
 W : Nat
 N : Nat
 F : Nat
 R : Nat
 B : Nat
 cR : Nat
 cB : Nat
 rb : Nat → Nat
 bb : Nat → Nat
def Lay.kA (L : Lay) : Slot → Addr
 | .ent f => ⟨L.E, f, none⟩
 | .fin f => ⟨L.N, f, none⟩
 | .at_ f k => ⟨L.rb f, k, none⟩
def Lay.tA (L : Lay) : Slot → Addr
 | .ent f => ⟨L.W, f, none⟩
 | .fin f => ⟨L.F, f, none⟩
 | .at_ f k => ⟨L.bb f, k, none⟩
/-- No two parts share a block; all lie between lo and hi. -/
structure Lay.Ok (p : Prg) (L : Lay) : Prop where
 tag : ∃ t : Nat → Nat × Nat, t L.A = (0, 0) ∧ t L.E = (1, 0) ∧ t L.W = (2, 0) ∧ t L.N = (3, 0) ∧ t L.F = (4, 0) ∧ t L.R = (5, 0) ∧ t L.B = (6, 0) ∧ (∀ f, f < p.funs.length → t (L.rb f) = (7, f)) ∧ (∀ f, f < p.funs.length → t (L.bb f) = (8, f))
 rng : ∀ b ∈ [L.A, L.E, L.W, L.N, L.F, L.R, L.B], L.lo ≤ b ∧ b < L.hi
 rngR : ∀ f, f < p.funs.length → (L.lo ≤ L.rb f ∧ L.rb f < L.hi) ∧ L.lo ≤ L.bb f ∧ L.bb f < L.hi
section
variable {p : Prg} {L : Lay} (h : L.Ok p)
include h
theorem Lay.Ok.kt {x y : Slot} (hx : x.In p) (hy : y.In p) : (L.kA x).block ≠ (L.tA y).block := by
 obtain ⟨t, t0, t1, t2, t3, t4, t5, t6, t7, t8⟩ := h.tag
 intro e
 have e := congrArg t e
 cases x with
 | ent f => cases y with
  | ent g => simp only [Lay.kA, Lay.tA, t1, t2] at e; cases e
  | fin g => simp only [Lay.kA, Lay.tA, t1, t4] at e; cases e
  | at_ g k => simp only [Lay.kA, Lay.tA, t1, t8 _ hy.1] at e; cases e
 | fin f => cases y with
  | ent g => simp only [Lay.kA, Lay.tA, t3, t2] at e; cases e
  | fin g => simp only [Lay.kA, Lay.tA, t3, t4] at e; cases e
  | at_ g k => simp only [Lay.kA, Lay.tA, t3, t8 _ hy.1] at e; cases e
 | at_ f j => cases y with
  | ent g => simp only [Lay.kA, Lay.tA, t7 _ hx.1, t2] at e; cases e
  | fin g => simp only [Lay.kA, Lay.tA, t7 _ hx.1, t4] at e; cases e
  | at_ g k => simp only [Lay.kA, Lay.tA, t7 _ hx.1, t8 _ hy.1] at e; cases e
theorem Lay.Ok.kk {x y : Slot} (hx : x.In p) (hy : y.In p) (e0 : L.kA x = L.kA y) : x = y := by
 obtain ⟨t, t0, t1, t2, t3, t4, t5, t6, t7, t8⟩ := h.tag
 have e := congrArg (fun a : Addr => (t a.block, a.off)) e0
 cases x with
 | ent f => cases y with
  | ent g => simp only [Lay.kA, t1] at e; cases e; rfl
  | fin g => simp only [Lay.kA, t1, t3] at e; cases e
  | at_ g k => simp only [Lay.kA, t1, t7 _ hy.1] at e; cases e
 | fin f => cases y with
  | ent g => simp only [Lay.kA, t3, t1] at e; cases e
  | fin g => simp only [Lay.kA, t3] at e; cases e; rfl
  | at_ g k => simp only [Lay.kA, t3, t7 _ hy.1] at e; cases e
 | at_ f j => cases y with
  | ent g => simp only [Lay.kA, t7 _ hx.1, t1] at e; cases e
  | fin g => simp only [Lay.kA, t7 _ hx.1, t3] at e; cases e
  | at_ g k => simp only [Lay.kA, t7 _ hx.1, t7 _ hy.1] at e; cases e; rfl
theorem Lay.Ok.tt {x y : Slot} (hx : x.In p) (hy : y.In p) (e0 : L.tA x = L.tA y) : x = y := by
 obtain ⟨t, t0, t1, t2, t3, t4, t5, t6, t7, t8⟩ := h.tag
 have e := congrArg (fun a : Addr => (t a.block, a.off)) e0
 cases x with
 | ent f => cases y with
  | ent g => simp only [Lay.tA, t2] at e; cases e; rfl
  | fin g => simp only [Lay.tA, t2, t4] at e; cases e
  | at_ g k => simp only [Lay.tA, t2, t8 _ hy.1] at e; cases e
 | fin f => cases y with
  | ent g => simp only [Lay.tA, t4, t2] at e; cases e
  | fin g => simp only [Lay.tA, t4] at e; cases e; rfl
  | at_ g k => simp only [Lay.tA, t4, t8 _ hy.1] at e; cases e
 | at_ f j => cases y with
  | ent g => simp only [Lay.tA, t8 _ hx.1, t2] at e; cases e
  | fin g => simp only [Lay.tA, t8 _ hx.1, t4] at e; cases e
  | at_ g k => simp only [Lay.tA, t8 _ hx.1, t8 _ hy.1] at e; cases e; rfl
/-- The header's blocks are none of a place. -/
theorem Lay.Ok.head {x : Slot} (hx : x.In p) {b : Nat} (hb : b = L.A ∨ b = L.R ∨ b = L.B) : b ≠ (L.kA x).block ∧ b ≠ (L.tA x).block := by
 obtain ⟨t, t0, t1, t2, t3, t4, t5, t6, t7, t8⟩ := h.tag
 constructor
 ·intro e
  have e := congrArg t e
  cases x with
  | ent f => rcases hb with rfl | rfl | rfl <;> simp only [Lay.kA, t0, t1, t5, t6] at e <;> cases e
  | fin f => rcases hb with rfl | rfl | rfl <;> simp only [Lay.kA, t0, t3, t5, t6] at e <;> cases e
  | at_ f k => rcases hb with rfl | rfl | rfl <;> simp only [Lay.kA, t0, t7 _ hx.1, t5, t6] at e <;> cases e
 ·intro e
  have e := congrArg t e
  cases x with
  | ent f => rcases hb with rfl | rfl | rfl <;> simp only [Lay.tA, t0, t2, t5, t6] at e <;> cases e
  | fin f => rcases hb with rfl | rfl | rfl <;> simp only [Lay.tA, t0, t4, t5, t6] at e <;> cases e
  | at_ f k => rcases hb with rfl | rfl | rfl <;> simp only [Lay.tA, t0, t8 _ hx.1, t5, t6] at e <;> cases e
theorem Lay.Ok.hdA : L.R ≠ L.A ∧ L.B ≠ L.A := by
 obtain ⟨t, t0, t1, t2, t3, t4, t5, t6, t7, t8⟩ := h.tag
 constructor
 ·intro e; have e := congrArg t e; rw [t5, t0] at e; cases e
 ·intro e; have e := congrArg t e; rw [t6, t0] at e; cases e
theorem Lay.Ok.kIn {x : Slot} (hx : x.In p) : L.lo ≤ (L.kA x).block ∧ (L.kA x).block < L.hi := by
 cases x with
 | ent f => exact h.rng L.E (by simp)
 | fin f => exact h.rng L.N (by simp)
 | at_ f k => exact (h.rngR f hx.1).1
theorem Lay.Ok.tIn {x : Slot} (hx : x.In p) : L.lo ≤ (L.tA x).block ∧ (L.tA x).block < L.hi := by
 cases x with
 | ent f => exact h.rng L.W (by simp)
 | fin f => exact h.rng L.F (by simp)
 | at_ f k => exact (h.rngR f hx.1).2
end
/-- Only blocks between lo and hi have turned; new ones may have come. -/
structure Turn (lo hi : Nat) (w W : World) : Prop where
 os : W.os = w.os
 tape : W.tape = w.tape
 output : W.output = w.output
 size : w.heap.size ≤ W.heap.size
 block : ∀ k, k < w.heap.size → (k < lo ∨ hi ≤ k) → W.heap[k]? = w.heap[k]?
theorem Turn.refl (lo hi : Nat) (w : World) : Turn lo hi w w := ⟨rfl, rfl, rfl, Nat.le_refl _, fun _ _ _ => rfl⟩
theorem Turn.trans {lo hi : Nat} {a b c : World} (h1 : Turn lo hi a b) (h2 : Turn lo hi b c) : Turn lo hi a c :=
 ⟨h2.os.trans h1.os, h2.tape.trans h1.tape, h2.output.trans h1.output, Nat.le_trans h1.size h2.size, fun k hk hr => (h2.block k (Nat.lt_of_lt_of_le hk h1.size) hr).trans (h1.block k hk hr)⟩
theorem Turn.of_below {lo hi : Nat} {w W : World} (h : Below w.heap.size w W) : Turn lo hi w W :=
 ⟨h.os, h.tape, h.output, h.size, fun k hk _ => h.block k hk⟩
theorem Turn.setCell {lo hi : Nat} {w W : World} (h : Turn lo hi w W) {a : Addr} (ha : lo ≤ a.block ∧ a.block < hi) (v : Value) : Turn lo hi w (W.setCell a v) :=
 ⟨h.os, h.tape, h.output, by simpa using h.size, fun k hk hr => (heap_setCell_other _ _ _ _ (by omega)).trans (h.block k hk hr)⟩
theorem Turn.drewN {lo hi : Nat} {w W : World} (h : Turn lo hi w W) (n : Nat) : Turn lo hi w (W.drewN n) := ⟨h.os, h.tape, h.output, h.size, h.block⟩
theorem Turn.below {lo hi : Nat} {w W : World} (h : Turn lo hi w W) (hl : lo ≤ w.heap.size) : Below lo w W :=
 ⟨h.os, h.tape, h.output, h.size, fun k hk => h.block k (by omega) (.inl hk)⟩
theorem Turn.cell {lo hi : Nat} {w W : World} (h : Turn lo hi w W) {a : Addr} {v : Value} (hc : w.cell? a = some v) (ha : a.block < lo ∨ hi ≤ a.block) : W.cell? a = some v := by
 have := h.block a.block (block_lt_of_cell hc) ha
 simp only [World.cell?, this]
 exact hc
/-- The cells of the analysis' header. -/
def hdCells (p : Prg) (L : Lay) (ch : Bool) : Array Value :=
 #[.slice p.funA p.funs.length p.funC, .slice p.obA p.obs.length p.obC, .slice p.vrA p.vrs.length p.vrC, sv (allM p), sv (cleanM p), .slice (some ⟨L.E, 0, none⟩) p.funs.length p.funs.length, .slice (some ⟨L.W, 0, none⟩) p.funs.length p.funs.length, .slice (some ⟨L.N, 0, none⟩) p.funs.length p.funs.length, .slice (some ⟨L.F, 0, none⟩) p.funs.length p.funs.length, .slice (some ⟨L.R, 0, none⟩) p.funs.length L.cR, .slice (some ⟨L.B, 0, none⟩) p.funs.length L.cB, .bool ch]
/-- The analysis lies in memory, in the state s. -/
structure Mem (p : Prg) (L : Lay) (w : World) (s : S) : Prop where
 ok : L.Ok p
 prog : Lies w L.lo p
 hdr : w.heap[L.A]? = some (.cells (hdCells p L s.ch) 88 (0, 0))
 outR : ∀ f, f < p.funs.length → w.cell? ⟨L.R, f, none⟩ = some (.slice (some ⟨L.rb f, 0, none⟩) (p.len f) (p.len f))
 outB : ∀ f, f < p.funs.length → w.cell? ⟨L.B, f, none⟩ = some (.slice (some ⟨L.bb f, 0, none⟩) (p.len f) (p.len f))
 slot : ∀ x : Slot, x.In p → (w.cell? (L.kA x) = some (.bool (s.get x).1) ∧ w.frozen? (L.kA x) = false) ∧ w.cell? (L.tA x) = some (sv (s.get x).2) ∧ w.frozen? (L.tA x) = false
 sized : s.Sized p
 hi : L.lo ≤ L.hi ∧ L.hi ≤ w.heap.size
theorem frozen_block {w W : World} {a : Addr} (h : W.heap[a.block]? = w.heap[a.block]?) : W.frozen? a = w.frozen? a := by simp only [World.frozen?, h]
theorem Mem.below {p : Prg} {L : Lay} {w W : World} {s : S} (h : Mem p L w s) (hb : Below w.heap.size w W) : Mem p L W s := by
 have hk : ∀ a : Addr, a.block < L.hi → W.heap[a.block]? = w.heap[a.block]? := fun a ha => hb.block _ (by have := h.hi.2; omega)
 have hc : ∀ a : Addr, a.block < L.hi → W.cell? a = w.cell? a := fun a ha => hb.cell (by have := h.hi.2; omega)
 refine ⟨h.ok, h.prog.below (hb.mono (by have := h.hi; omega)), (hb.block _ ?_).trans h.hdr, fun f hf => (hc _ ?_).trans (h.outR f hf), fun f hf => (hc _ ?_).trans (h.outB f hf), fun x hx => ⟨⟨?_, ?_⟩, ?_, ?_⟩, h.sized, h.hi.1, Nat.le_trans h.hi.2 hb.size⟩
 ·have := (h.ok.rng L.A (by simp)).2; have := h.hi.2; omega
 ·exact (h.ok.rng L.R (by simp)).2
 ·exact (h.ok.rng L.B (by simp)).2
 ·exact (hc _ (h.ok.kIn hx).2).trans (h.slot x hx).1.1
 ·exact (frozen_block (hk _ (h.ok.kIn hx).2)).trans (h.slot x hx).1.2
 ·exact (hc _ (h.ok.tIn hx).2).trans (h.slot x hx).2.1
 ·exact (frozen_block (hk _ (h.ok.tIn hx).2)).trans (h.slot x hx).2.2
theorem Mem.below' {p : Prg} {L : Lay} {w W : World} {s : S} (h : Mem p L w s) (hb : Below L.hi w W) : Mem p L W s := by
 have hk : ∀ a : Addr, a.block < L.hi → W.heap[a.block]? = w.heap[a.block]? := fun a ha => hb.block _ ha
 have hc : ∀ a : Addr, a.block < L.hi → W.cell? a = w.cell? a := fun a ha => hb.cell ha
 refine ⟨h.ok, h.prog.below (hb.mono h.hi.1), (hb.block _ (h.ok.rng L.A (by simp)).2).trans h.hdr, fun f hf => (hc _ (h.ok.rng L.R (by simp)).2).trans (h.outR f hf), fun f hf => (hc _ (h.ok.rng L.B (by simp)).2).trans (h.outB f hf), fun x hx => ⟨⟨(hc _ (h.ok.kIn hx).2).trans (h.slot x hx).1.1, (frozen_block (hk _ (h.ok.kIn hx).2)).trans (h.slot x hx).1.2⟩, (hc _ (h.ok.tIn hx).2).trans (h.slot x hx).2.1, (frozen_block (hk _ (h.ok.tIn hx).2)).trans (h.slot x hx).2.2⟩, h.sized, h.hi.1, Nat.le_trans h.hi.2 hb.size⟩
theorem Mem.drewN {p : Prg} {L : Lay} {w : World} {s : S} (h : Mem p L w s) (n : Nat) : Mem p L (w.drewN n) s := h.below (below_drews _ _ _)
/-- The flag is set. -/
theorem Mem.flag {p : Prg} {L : Lay} {w : World} {s : S} (h : Mem p L w s) (c : Bool) : Mem p L (w.setCell ⟨L.A, 11, none⟩ (.bool c)) { s with ch := c } := by
 have hA := h.ok.rng L.A (by simp)
 refine ⟨h.ok, h.prog.below ((Below.refl _ _).setCell (p := ⟨L.A, 11, none⟩) hA.1 _), ?_, fun f hf => ?_, fun f hf => ?_, fun x hx => ?_, ⟨h.sized.ent, h.sized.fin, h.sized.cell, h.sized.row⟩, h.hi.1, by simpa using h.hi.2⟩
 ·rw [heap_setCell_same w L.A 11 _ _ _ h.hdr]
  rfl
 ·rw [World.cell?_setCell_far _ _ _ _ (fun e => h.ok.hdA.1 e.symm)]; exact h.outR f hf
 ·rw [World.cell?_setCell_far _ _ _ _ (fun e => h.ok.hdA.2 e.symm)]; exact h.outB f hf
 ·have hne := h.ok.head hx (b := L.A) (.inl rfl)
  refine ⟨⟨?_, ?_⟩, ?_, ?_⟩
  ·rw [World.cell?_setCell_far _ _ _ _ hne.1]; exact (h.slot x hx).1.1
  ·rw [World.frozen?_setCell]; exact (h.slot x hx).1.2
  ·rw [World.cell?_setCell_far _ _ _ _ hne.2]; exact (h.slot x hx).2.1
  ·rw [World.frozen?_setCell]; exact (h.slot x hx).2.2
/-- A place is set. -/
theorem Mem.place {p : Prg} {L : Lay} {w : World} {s : S} (h : Mem p L w s) {x : Slot} (hx : x.In p) (k : Bool) (t : BS) : Mem p L ((w.setCell (L.kA x) (.bool k)).setCell (L.tA x) (sv t)) (s.set x (k, t)) := by
 have hk := h.ok.kIn hx
 have ht := h.ok.tIn hx
 have hA := h.ok.head hx (b := L.A) (.inl rfl)
 have hR := h.ok.head hx (b := L.R) (.inr (.inl rfl))
 have hB := h.ok.head hx (b := L.B) (.inr (.inr rfl))
 have hch : (s.set x (k, t)).ch = s.ch := by cases x <;> rfl
 refine ⟨h.ok, h.prog.below (((Below.refl _ _).setCell hk.1 _).setCell ht.1 _), ?_, fun f hf => ?_, fun f hf => ?_, fun y hy => ?_, h.sized.set x _, h.hi.1, by simpa using h.hi.2⟩
 ·rw [heap_setCell_other _ _ _ _ hA.2, heap_setCell_other _ _ _ _ hA.1, hch]; exact h.hdr
 ·rw [World.cell?_setCell_far _ _ _ _ (fun e => hR.2 e.symm), World.cell?_setCell_far _ _ _ _ (fun e => hR.1 e.symm)]; exact h.outR f hf
 ·rw [World.cell?_setCell_far _ _ _ _ (fun e => hB.2 e.symm), World.cell?_setCell_far _ _ _ _ (fun e => hB.1 e.symm)]; exact h.outB f hf
 ·rw [S.get_set h.sized hx]
  obtain ⟨⟨y1, y2⟩, y3, y4⟩ := h.slot y hy
  obtain ⟨⟨x1, x2⟩, x3, x4⟩ := h.slot x hx
  have kt := h.ok.kt hx hy
  have kt2 := h.ok.kt hy hx
  refine ⟨⟨?_, ?_⟩, ?_, ?_⟩
  ·rw [World.cell?_setCell_far _ _ _ _ (fun e => kt2 e.symm)]
   by_cases e : y = x
   ·subst e; rw [if_pos rfl, World.cell?_setCell_same _ _ _ y1]
   ·rw [if_neg e, World.cell?_setCell_other _ _ _ _ (fun z => e (h.ok.kk hx hy z).symm)]; exact y1
  ·rw [World.frozen?_setCell, World.frozen?_setCell]; exact y2
  ·by_cases e : y = x
   ·subst e
    rw [if_pos rfl, World.cell?_setCell_same _ _ _ (u := sv (s.get y).2)]
    rw [World.cell?_setCell_far _ _ _ _ kt]; exact y3
   ·rw [if_neg e, World.cell?_setCell_other _ _ _ _ (fun z => e (h.ok.tt hx hy z).symm), World.cell?_setCell_far _ _ _ _ kt]; exact y3
  ·rw [World.frozen?_setCell, World.frozen?_setCell]; exact y4
/-- The call returns v, the state is s, nothing else has turned. -/
def Left (p : Prg) (L : Lay) (w : World) (s : S) (v : Value) : Ending → World → Prop := fun e W => e = .returned v ∧ Mem p L W s ∧ Turn L.lo L.hi w W
theorem Mem.hd {p : Prg} {L : Lay} {w : World} {s : S} (h : Mem p L w s) {j : Nat} {v : Value} (hv : (hdCells p L s.ch)[j]? = some v) : w.cell? ⟨L.A, j, none⟩ = some v := by
 have := h.hdr
 simp only [World.cell?, this]
 simpa using hv
theorem Mem.c0 {p : Prg} {L : Lay} {w : World} {s : S} (h : Mem p L w s) : w.cell? ⟨L.A, 0, none⟩ = some (.slice p.funA p.funs.length p.funC) := h.hd rfl
theorem Mem.c1 {p : Prg} {L : Lay} {w : World} {s : S} (h : Mem p L w s) : w.cell? ⟨L.A, 1, none⟩ = some (.slice p.obA p.obs.length p.obC) := h.hd rfl
theorem Mem.c2 {p : Prg} {L : Lay} {w : World} {s : S} (h : Mem p L w s) : w.cell? ⟨L.A, 2, none⟩ = some (.slice p.vrA p.vrs.length p.vrC) := h.hd rfl
theorem Mem.c3 {p : Prg} {L : Lay} {w : World} {s : S} (h : Mem p L w s) : w.cell? ⟨L.A, 3, none⟩ = some (sv (allM p)) := h.hd rfl
theorem Mem.c4 {p : Prg} {L : Lay} {w : World} {s : S} (h : Mem p L w s) : w.cell? ⟨L.A, 4, none⟩ = some (sv (cleanM p)) := h.hd rfl
theorem Mem.c5 {p : Prg} {L : Lay} {w : World} {s : S} (h : Mem p L w s) : w.cell? ⟨L.A, 5, none⟩ = some (.slice (some ⟨L.E, 0, none⟩) p.funs.length p.funs.length) := h.hd rfl
theorem Mem.c6 {p : Prg} {L : Lay} {w : World} {s : S} (h : Mem p L w s) : w.cell? ⟨L.A, 6, none⟩ = some (.slice (some ⟨L.W, 0, none⟩) p.funs.length p.funs.length) := h.hd rfl
theorem Mem.c7 {p : Prg} {L : Lay} {w : World} {s : S} (h : Mem p L w s) : w.cell? ⟨L.A, 7, none⟩ = some (.slice (some ⟨L.N, 0, none⟩) p.funs.length p.funs.length) := h.hd rfl
theorem Mem.c8 {p : Prg} {L : Lay} {w : World} {s : S} (h : Mem p L w s) : w.cell? ⟨L.A, 8, none⟩ = some (.slice (some ⟨L.F, 0, none⟩) p.funs.length p.funs.length) := h.hd rfl
theorem Mem.c9 {p : Prg} {L : Lay} {w : World} {s : S} (h : Mem p L w s) : w.cell? ⟨L.A, 9, none⟩ = some (.slice (some ⟨L.R, 0, none⟩) p.funs.length L.cR) := h.hd rfl
theorem Mem.c10 {p : Prg} {L : Lay} {w : World} {s : S} (h : Mem p L w s) : w.cell? ⟨L.A, 10, none⟩ = some (.slice (some ⟨L.B, 0, none⟩) p.funs.length L.cB) := h.hd rfl
theorem Mem.c11 {p : Prg} {L : Lay} {w : World} {s : S} (h : Mem p L w s) : w.cell? ⟨L.A, 11, none⟩ = some (.bool s.ch) := h.hd rfl
theorem Mem.hdF {p : Prg} {L : Lay} {w : World} {s : S} (h : Mem p L w s) (j : Nat) : w.frozen? ⟨L.A, j, none⟩ = false := by
 have := h.hdr
 simp [World.frozen?, this]
/-- A place grows. -/
theorem Mem.grow {p : Prg} {L : Lay} {w W : World} {s : S} (h : Mem p L w s) {x : Slot} (hx : x.In p) {l : BS} (hg : Grew L.A (L.kA x).block (L.kA x).off (L.tA x).block (L.tA x).off (s.get x).1 (s.get x).2 l w W) : Mem p L W (s.grow x l) ∧ Turn L.lo L.hi w W := by
 obtain ⟨q, rfl⟩ := hg
 have hk := h.ok.kIn hx
 have ht := h.ok.tIn hx
 have hA := h.ok.rng L.A (by simp)
 have ek : (⟨(L.kA x).block, (L.kA x).off, none⟩ : Addr) = L.kA x := by cases x <;> rfl
 have et : (⟨(L.tA x).block, (L.tA x).off, none⟩ : Addr) = L.tA x := by cases x <;> rfl
 rw [ek, et]
 cases hc : (!(s.get x).1 || ((s.get x).2 ||| l) != (s.get x).2) with
 | true =>
  rw [if_pos rfl]
  refine ⟨?_, (((Turn.refl _ _ _).drewN q).setCell hA _ |>.setCell hk _).setCell ht _⟩
  have h1 := ((h.drewN q).flag true).place hx true ((s.get x).2 ||| l)
  have e : s.grow x l = ({ s with ch := true } : S).set x (true, (s.get x).2 ||| l) := by
   unfold S.grow
   rw [Bool.or_assoc, hc, Bool.or_true]
   cases x <;> rfl
  rw [e]; exact h1
 | false =>
  rw [if_neg (by decide)]
  refine ⟨?_, (((Turn.refl _ _ _).drewN q).setCell hk _).setCell ht _⟩
  have h1 := (h.drewN q).place hx true ((s.get x).2 ||| l)
  have e : s.grow x l = s.set x (true, (s.get x).2 ||| l) := by
   unfold S.grow
   rw [Bool.or_assoc, hc, Bool.or_false]
   cases x <;> rfl
  rw [e]; exact h1
theorem grow_any (p : Prg) (L : Lay) (w : World) (s : S) (h : Mem p L w s) (x : Slot) (hx : x.In p) (l : BS) :
  Calls Tryz.prog 84 #[.pointer (some ⟨L.A, 0, none⟩), .pointer (some (L.kA x)), .pointer (some (L.tA x)), sv l] w (Left p L w (s.grow x l) (.tuple #[])) := by
 obtain ⟨⟨x1, x2⟩, x3, x4⟩ := h.slot x hx
 have ek : L.kA x = ⟨(L.kA x).block, (L.kA x).off, none⟩ := by cases x <;> rfl
 have et : L.tA x = ⟨(L.tA x).block, (L.tA x).off, none⟩ := by cases x <;> rfl
 have hh := h.ok.head hx (b := L.A) (.inl rfl)
 have hg := grow_cells w L.A (L.kA x).block (L.kA x).off (L.tA x).block (L.tA x).off (s.get x).1 s.ch (s.get x).2 l (by rw [← ek]; exact x1) (by rw [← ek]; exact x2) (by rw [← et]; exact x3) (by rw [← et]; exact x4) (h.hd rfl) (h.hdF 11) hh.1 hh.2 (h.ok.kt hx hx)
 rw [← ek, ← et] at hg
 refine hg.mono ?_
 rintro e W ⟨rfl, hgr⟩
 exact ⟨rfl, h.grow hx hgr⟩
end Go.Proofs.YtkpjdanfpolimaaGreat
end
section
namespace Go.Proofs.YtkpjdanfpolimaaGreat
open Go.RowKit
theorem reach_any (p : Prg) (L : Lay) (w : World) (s : S) (h : Mem p L w s) (f k : Nat) (hx : (Slot.at_ f k).In p) (l : BS) :
  Calls Tryz.prog 85 #[.pointer (some ⟨L.A, 0, none⟩), .int .i64 f, .int .i64 k, sv l] w (Left p L w (s.grow (.at_ f k) l) (.tuple #[])) := by
 have HG := Lib.hid (fun (W : World) (hb : Below w.heap.size w W) => grow_any p L W s (h.below hb) (.at_ f k) hx l)
 have c9 := h.c9
 have c10 := h.c10
 have cR := h.outR f hx.1
 have cB := h.outB f hx.1
 have f0 : (0 : Int) ≤ (f : Int) := by omega
 have f1 : (f : Int) < (p.funs.length : Int) := by have := hx.1; omega
 have k0 : (0 : Int) ≤ (k : Int) := by omega
 have k1 : (k : Int) < (p.len f : Int) := by have := hx.2; omega
 clear h hx
 unfold sv at HG ⊢
 generalize p.len f = M at *
 generalize p.funs.length = N at *
 go_enter Tryz.func85, Tryz.ntmps85
 go_wp2_with fail
 go_still_tail 20, (by kernel_rfl)
 change wpList _ _ _ _ _ w.drew
 have hb := below_drews w.heap.size w 1
 change Below w.heap.size w w.drew at hb
 generalize w.drew = W1 at hb ⊢
 go_wp2_with fail
 refine (HG.out _ hb).mono ?_
 rintro e W2 ⟨rfl, hm, ht⟩
 go_wp2_with fail
 go_end0
 exact ⟨rfl, hm, (Turn.of_below hb).trans ht⟩
theorem enter_any (p : Prg) (L : Lay) (w : World) (s : S) (h : Mem p L w s) (f : Nat) (hf : f < p.funs.length) (l : BS) :
  Calls Tryz.prog 67 #[.pointer (some ⟨L.A, 0, none⟩), .int .i64 f, sv l] w (Left p L w (s.enter p f l) (.tuple #[])) := by
 have HG := Lib.hid (fun (W : World) (hb : Below w.heap.size w W) => grow_any p L W s (h.below hb) (.ent f) hf l)
 have HR : Hid (∀ (W : World) (_ : Mem p L W (s.grow (.ent f) l)) (_ : 0 < p.len f) (l2 : BS), Calls Tryz.prog 85 #[.pointer (some ⟨L.A, 0, none⟩), .int .i64 f, .int .i64 0, .int .u32 (l2.toNat : Int)] W (Left p L W ((s.grow (.ent f) l).grow (.at_ f 0) l2) (.tuple #[]))) :=
  Lib.hid (fun W hm h0 l2 => reach_any p L W _ hm f 0 ⟨hf, h0⟩ l2)
 have c5 := h.c5
 have c6 := h.c6
 have f0 : (0 : Int) ≤ (f : Int) := by omega
 have f1 : (f : Int) < (p.funs.length : Int) := by omega
 clear h
 unfold sv at HG ⊢
 go_enter Tryz.func67, Tryz.ntmps67
 go_wp2_with fail
 go_still_tail 14, (by kernel_rfl)
 change wpList _ _ _ _ _ w.drew
 have hb := below_drews w.heap.size w 1
 change Below w.heap.size w w.drew at hb
 generalize w.drew = W1 at hb ⊢
 go_wp2_with fail
 refine (HG.out _ hb).mono ?_
 rintro e W2 ⟨rfl, hm, ht⟩
 have ht2 := (Turn.of_below (lo := L.lo) (hi := L.hi) hb).trans ht
 have d0 := hm.c0
 have d6 := hm.c6
 obtain ⟨b, off, hA, hbl, -, -, -, -, -, e5⟩ := hm.prog.fn hf
 have hs := (hm.slot (.ent f) hf).2.1
 have HM2 := Lib.hid hm
 rw [hA] at d0
 have hcn : p.funs[f].code.length = p.len f := by simp [Prg.len, Prg.fn, hf]
 rw [hcn] at e5
 unfold sv at hs
 unfold Lay.tA at hs
 clear hm ht c5 c6 hA
 by_cases h0 : p.len f = 0
 ·have g1 : decide (0 < p.len f) = false := decide_eq_false (by omega)
  have g2 : decide ((0 : Int) < (p.len f : Int)) = false := decide_eq_false (by omega)
  have H0 := Lib.hid h0
  clear h0
  go_wp2_with fail
  go_end0
  refine ⟨rfl, ?_, ht2⟩
  unfold S.enter
  rw [if_pos H0.out]
  exact HM2.out
 ·have g1 : decide (0 < p.len f) = true := decide_eq_true (by omega)
  have g2 : decide ((0 : Int) < (p.len f : Int)) = true := decide_eq_true (by omega)
  have H0 := Lib.hid h0
  clear h0
  go_wp2_with fail
  refine (HR.out _ HM2.out (by have := H0.out; omega) _).mono ?_
  rintro e W3 ⟨rfl, hm, ht⟩
  go_wp2_with fail
  go_end0
  refine ⟨rfl, ?_, ht2.trans ht⟩
  unfold S.enter
  rw [if_neg H0.out]
  exact hm
end Go.Proofs.YtkpjdanfpolimaaGreat
end
section
namespace Go.Proofs.YtkpjdanfpolimaaGreat
open Go.RowKit Go.Shelf
theorem check_ok (p : Prg) (hfit : Fits p) (hv : prgOk p) (w : World) (h : Lies w w.heap.size p) : Calls Tryz.prog 65 #[p.val] w (Ret (.int .i64 0) w) := by
 have hn1 := h.funN
 have hn2 := h.obN
 have hn3 := h.vrN
 unfold maxLen at hn1 hn2 hn3
 obtain ⟨⟨l1, l2, l3, l4⟩, v1, v2, v3⟩ := hv
 have hT := one_new w #[.slice p.funA p.funs.length p.funC, .slice p.obA p.obs.length p.obC, .slice p.vrA p.vrs.length p.vrC] 26
 have hc1 := fun k hk W hb => (chkOb_any p k hk W (h.next hb)).mono fun e w' (hh : RetE _ _ e w') => hh.ok (v1 k hk)
 have hc2 := fun k hk W hb => (chkVr_any p k hk W (h.next hb)).mono fun e w' (hh : RetE _ _ e w') => hh.ok (v2 k hk)
 have hc3 := fun k hk W hb => chkFn_ok p k hk hfit W (h.next hb) (v3 k hk)
 unfold Prg.val at hc1 hc2 hc3 ⊢
 have HC1 := Lib.hid hc1
 have HC2 := Lib.hid hc2
 have HC3 := Lib.hid hc3
 clear hc1 hc2 hc3 v1 v2 v3 h hfit
 have e1 : ((p.funs.length : Int) == 0) = false := beq_eq_false_iff_ne.2 (by omega)
 have e2 : (p.funs.length == 0) = false := beq_eq_false_iff_ne.2 (by omega)
 have g1 : decide ((32 : Int) < (p.funs.length : Int)) = false := decide_eq_false (by omega)
 have g2 : decide (32 < p.funs.length) = false := decide_eq_false (by omega)
 have g3 : decide ((16 : Int) < (p.obs.length : Int)) = false := decide_eq_false (by omega)
 have g4 : decide (16 < p.obs.length) = false := decide_eq_false (by omega)
 have g5 : decide ((16 : Int) < (p.vrs.length : Int)) = false := decide_eq_false (by omega)
 have g6 : decide (16 < p.vrs.length) = false := decide_eq_false (by omega)
 go_enter Tryz.func65, Tryz.ntmps65
 go_upto_region 1 with fail
 generalize World.alloc w _ = W1 at hT ⊢
 obtain ⟨xa0, xa1, xa2⟩ := bx3 hT.fst
 go_wp2_with fail
 go_loopw [32] (fun i wr => ∃ j : Nat, i = .int .i64 j ∧ j ≤ p.obs.length ∧ One w wr [.slice p.funA p.funs.length p.funC, .slice p.obA p.obs.length p.obC, .slice p.vrA p.vrs.length p.vrC]) (fun i _ => p.obs.length - (intOf i).toNat)
 case atStart => exact ⟨0, rfl, by omega, hT⟩
 case round =>
  obtain ⟨j, rfl, hj, hTa⟩ := hrel
  obtain ⟨xa0, xa1, xa2⟩ := bx3 hTa.fst
  have hj0 : (0 : Int) ≤ (j : Int) := by omega
  by_cases hlt : j < p.obs.length
  ·have hwr1 : IntKind.i64.wrap ((j : Int) + 1) = (j : Int) + 1 := by rw [IntKind.wrap_i64]; omega
   have hd1 : decide ((j : Int) < (p.obs.length : Int)) = true := decide_eq_true (by omega)
   have hd2 : decide (j < p.obs.length) = true := decide_eq_true hlt
   go_wp2_with fail
   refine (HC1.out j hlt _ hTa.below).mono ?_
   rintro e w5 ⟨rfl, hb5⟩
   have hT5 := hTa.next hb5
   go_wp2_with fail
   exact ⟨⟨j + 1, by go_num, by omega, hT5⟩, by simp [intOf]; omega⟩
  ·have hd1 : decide ((j : Int) < (p.obs.length : Int)) = false := decide_eq_false (by omega)
   have hd2 : decide (j < p.obs.length) = false := decide_eq_false hlt
   clear hlt hj
   go_wp2_with fail
   go_loopw [45] (fun i wr => ∃ j : Nat, i = .int .i64 j ∧ j ≤ p.vrs.length ∧ One w wr [.slice p.funA p.funs.length p.funC, .slice p.obA p.obs.length p.obC, .slice p.vrA p.vrs.length p.vrC]) (fun i _ => p.vrs.length - (intOf i).toNat)
   case atStart => exact ⟨0, rfl, by omega, hTa⟩
   case round =>
    obtain ⟨j, rfl, hj, hTb⟩ := hrel
    obtain ⟨xb0, xb1, xb2⟩ := bx3 hTb.fst
    have hj0 : (0 : Int) ≤ (j : Int) := by omega
    by_cases hlt : j < p.vrs.length
    ·have hwr1 : IntKind.i64.wrap ((j : Int) + 1) = (j : Int) + 1 := by rw [IntKind.wrap_i64]; omega
     have hd1 : decide ((j : Int) < (p.vrs.length : Int)) = true := decide_eq_true (by omega)
     have hd2 : decide (j < p.vrs.length) = true := decide_eq_true hlt
     go_wp2_with fail
     refine (HC2.out j hlt _ hTb.below).mono ?_
     rintro e w5 ⟨rfl, hb5⟩
     have hT5 := hTb.next hb5
     go_wp2_with fail
     exact ⟨⟨j + 1, by go_num, by omega, hT5⟩, by simp [intOf]; omega⟩
    ·have hd1 : decide ((j : Int) < (p.vrs.length : Int)) = false := decide_eq_false (by omega)
     have hd2 : decide (j < p.vrs.length) = false := decide_eq_false hlt
     clear hlt hj
     go_wp2_with fail
     go_loopw [58] (fun i wr => ∃ j : Nat, i = .int .i64 j ∧ j ≤ p.funs.length ∧ One w wr [.slice p.funA p.funs.length p.funC, .slice p.obA p.obs.length p.obC, .slice p.vrA p.vrs.length p.vrC]) (fun i _ => p.funs.length - (intOf i).toNat)
     case atStart => exact ⟨0, rfl, by omega, hTb⟩
     case round =>
      obtain ⟨j, rfl, hj, hTc⟩ := hrel
      obtain ⟨xc0, xc1, xc2⟩ := bx3 hTc.fst
      have hj0 : (0 : Int) ≤ (j : Int) := by omega
      by_cases hlt : j < p.funs.length
      ·have hwr1 : IntKind.i64.wrap ((j : Int) + 1) = (j : Int) + 1 := by rw [IntKind.wrap_i64]; omega
       have hd1 : decide ((j : Int) < (p.funs.length : Int)) = true := decide_eq_true (by omega)
       have hd2 : decide (j < p.funs.length) = true := decide_eq_true hlt
       go_wp2_with fail
       refine (HC3.out j hlt _ hTc.below).mono ?_
       rintro e w5 ⟨rfl, hb5⟩
       have hT5 := hTc.next hb5
       go_wp2_with fail
       exact ⟨⟨j + 1, by go_num, by omega, hT5⟩, by simp [intOf]; omega⟩
      ·have hd1 : decide ((j : Int) < (p.funs.length : Int)) = false := decide_eq_false (by omega)
       have hd2 : decide (j < p.funs.length) = false := decide_eq_false hlt
       clear hlt hj
       go_wp2_with fail
       go_ret
       exact ⟨rfl, hTc.below⟩
end Go.Proofs.YtkpjdanfpolimaaGreat
end
