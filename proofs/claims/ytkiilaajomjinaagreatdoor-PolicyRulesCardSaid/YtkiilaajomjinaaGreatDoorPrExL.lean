/- Expressions in memory. Conditions: none. -/
import Derived.Test.YtkiilaajomjinaaGreatDoorPrBase
import Derived.Test.YtkiilaajomjinaaGreatDoorProg
import Derived.Deep.RegionHeld
import Derived.Deep.QuietTactic
import Derived.BigQuiet
import Derived.Deep.Cut
namespace Go.Proofs.YtkiilaajomjinaaGreatDoor
open Go.RowKit

def I64 (x : Int) : Prop := -9223372036854775808 ≤ x ∧ x ≤ 9223372036854775807
/-- The five cells of an expression. -/
def exC (k o : Int) (n : ByteArray) (v : Int) (A : Option Addr) (m c : Nat) : List Value := [.int .i64 k, .int .i64 o, .string n, .int .i64 v, .slice A m c]
/-- Five cells that read as the expression; all that they lead to lies below block B. -/
inductive LiesE (w : World) (B : Nat) : List Value → Ex → Prop where
  | mk (k o : Int) (n : ByteArray) (v : Int) (A : Option Addr) (c : Nat) (xs : List Ex) (row : Nat → List Value)
      (bd : I64 k ∧ I64 o ∧ I64 v ∧ n.size ≤ 9223372036854775807 ∧ xs.length ≤ 9223372036854775807 ∧ xs.length ≤ c)
      (hA : xs.length = 0 ∨ ∃ b off : Nat, A = some ⟨b, off, none⟩ ∧ b < B ∧ ∀ i, i < xs.length → ∀ j u, (row i)[j]? = some u → w.cell? ⟨b, off + i * 5 + j, none⟩ = some u)
      (hr : ∀ (i : Nat) (h : i < xs.length), LiesE w B (row i) xs[i]) : LiesE w B (exC k o n v A xs.length c) (.mk k o n v xs)
theorem LiesE.keep {w w' : World} {B B' : Nat} {vs : List Value} {e : Ex} (h : LiesE w B vs e) (hB : B ≤ B') (hk : ∀ p : Addr, p.block < B → w'.cell? p = w.cell? p) : LiesE w' B' vs e := by
  induction h with
  | mk k o n v A c xs row bd hA hr ih =>
    refine .mk k o n v A c xs row bd ?_ ih
    rcases hA with h0 | ⟨b, off, e, hb, hc⟩
    · exact .inl h0
    · exact .inr ⟨b, off, e, by omega, fun i hi j u hu => (hk _ hb).trans (hc i hi j u hu)⟩
theorem LiesE.blw {w w' : World} {B : Nat} {vs : List Value} {e : Ex} (h : LiesE w B vs e) (hb : Below B w w') : LiesE w' B vs e := h.keep (Nat.le_refl _) fun _ hp => hb.cell hp
theorem LiesE.below' {w w' : World} {B C : Nat} {vs : List Value} {e : Ex} (h : LiesE w B vs e) (hb : Below C w w') (hC : B ≤ C) : LiesE w' B vs e := h.blw (hb.mono hC)
theorem LiesE.more {w : World} {B B' : Nat} {vs : List Value} {e : Ex} (h : LiesE w B vs e) (hB : B ≤ B') : LiesE w B' vs e := h.keep hB fun _ _ => rfl
theorem LiesE.next {w w' : World} {vs : List Value} {e : Ex} (h : LiesE w w.heap.size vs e) (hb : Below w.heap.size w w') : LiesE w' w'.heap.size vs e := (h.blw hb).more hb.size
/-- An expression's value, opened. -/
theorem LiesE.form {w : World} {B : Nat} {vs : List Value} {e : Ex} (h : LiesE w B vs e) : ∃ (A : Option Addr) (c : Nat) (row : Nat → List Value), vs = exC e.kind e.op e.name e.val A e.args.length c ∧
    (I64 e.kind ∧ I64 e.op ∧ I64 e.val ∧ e.name.size ≤ 9223372036854775807 ∧ e.args.length ≤ 9223372036854775807 ∧ e.args.length ≤ c) ∧
    (∀ (i : Nat) (h : i < e.args.length), ∃ b off : Nat, A = some ⟨b, off, none⟩ ∧ b < B ∧ (∀ j u, (row i)[j]? = some u → w.cell? ⟨b, off + i * 5 + j, none⟩ = some u)) ∧
    ∀ (i : Nat) (h : i < e.args.length), LiesE w B (row i) e.args[i] := by
  cases h with
  | mk k o n v A c xs row bd hA hr =>
    refine ⟨A, c, row, rfl, bd, fun i hi => ?_, hr⟩
    rcases hA with h0 | ⟨b, off, e, hb, hc⟩
    · have : i < xs.length := hi
      omega
    · exact ⟨b, off, e, hb, hc i hi⟩
/-- The i-th argument: its address and its five cells. -/
theorem LiesE.arg {w : World} {B : Nat} {vs : List Value} {e : Ex} (h : LiesE w B vs e) : ∃ (A : Option Addr) (c : Nat), vs = exC e.kind e.op e.name e.val A e.args.length c ∧
    (I64 e.kind ∧ I64 e.op ∧ I64 e.val ∧ e.name.size ≤ 9223372036854775807 ∧ e.args.length ≤ 9223372036854775807 ∧ e.args.length ≤ c) ∧
    (∀ (i : Nat) (h : i < e.args.length), ∃ (b off : Nat) (k o : Int) (n : ByteArray) (v : Int) (A' : Option Addr) (m c' : Nat), A = some ⟨b, off, none⟩ ∧ b < B ∧ LiesE w B (exC k o n v A' m c') e.args[i] ∧
      w.cell? ⟨b, off + i * 5, none⟩ = some (.int .i64 k) ∧ w.cell? ⟨b, off + i * 5 + 1, none⟩ = some (.int .i64 o) ∧ w.cell? ⟨b, off + i * 5 + 2, none⟩ = some (.string n) ∧ w.cell? ⟨b, off + i * 5 + 3, none⟩ = some (.int .i64 v) ∧ w.cell? ⟨b, off + i * 5 + 4, none⟩ = some (.slice A' m c')) := by
  obtain ⟨A, c, row, rfl, bd, hc, hr⟩ := h.form
  refine ⟨A, c, rfl, bd, fun i hi => ?_⟩
  obtain ⟨b, off, e1, hb, hcell⟩ := hc i hi
  obtain ⟨A', c', row', e2, -⟩ := (hr i hi).form
  have hri := hr i hi
  rw [e2] at hcell hri
  exact ⟨b, off, _, _, _, _, _, _, _, e1, hb, hri, hcell 0 _ rfl, hcell 1 _ rfl, hcell 2 _ rfl, hcell 3 _ rfl, hcell 4 _ rfl⟩
/-- The same for an expression written out. -/
theorem LiesE.inv {w : World} {B : Nat} {k o : Int} {n : ByteArray} {v : Int} {A : Option Addr} {m c : Nat} {e : Ex} (h : LiesE w B (exC k o n v A m c) e) : ∃ xs, e = .mk k o n v xs ∧ m = xs.length ∧
    (I64 k ∧ I64 o ∧ I64 v ∧ n.size ≤ 9223372036854775807 ∧ xs.length ≤ 9223372036854775807 ∧ xs.length ≤ c) ∧
    (∀ (i : Nat) (h : i < xs.length), ∃ (b off : Nat) (k o : Int) (n : ByteArray) (v : Int) (A' : Option Addr) (m c' : Nat), A = some ⟨b, off, none⟩ ∧ b < B ∧ LiesE w B (exC k o n v A' m c') xs[i] ∧
      w.cell? ⟨b, off + i * 5, none⟩ = some (.int .i64 k) ∧ w.cell? ⟨b, off + i * 5 + 1, none⟩ = some (.int .i64 o) ∧ w.cell? ⟨b, off + i * 5 + 2, none⟩ = some (.string n) ∧ w.cell? ⟨b, off + i * 5 + 3, none⟩ = some (.int .i64 v) ∧ w.cell? ⟨b, off + i * 5 + 4, none⟩ = some (.slice A' m c')) := by
  obtain ⟨A', c', e1, bd, ha⟩ := h.arg
  obtain ⟨k', o', n', v', xs⟩ := e
  unfold exC at e1
  simp only [List.cons.injEq, Value.int.injEq, Value.string.injEq, Value.slice.injEq, true_and, and_true, Ex.kind, Ex.op, Ex.name, Ex.val, Ex.args] at e1
  obtain ⟨rfl, rfl, rfl, rfl, rfl, rfl, rfl⟩ := e1
  exact ⟨xs, rfl, rfl, bd, ha⟩
end Go.Proofs.YtkiilaajomjinaaGreatDoor

/- Boxes behind the heap's old end; which blocks have turned. Conditions: none. -/
namespace Go.Proofs.YtkiilaajomjinaaGreatDoor
open Go.RowKit
def Bx (W : World) (g : Nat) (cs : List Value) : Prop := ∀ j v, cs[j]? = some v → W.cell? ⟨g, j, none⟩ = some v
theorem Bx.below {W W' : World} {g B : Nat} {cs : List Value} (h : Bx W g cs) (hb : Below B W W') (hg : g < B) : Bx W' g cs := fun j v hv => (hb.cell (p := ⟨g, j, none⟩) hg).trans (h j v hv)
theorem bx_new (W : World) (cs : Array Value) (t : Nat) : Bx (W.alloc (.cells cs t)) W.heap.size cs.toList := fun j v hv => by
  rw [cell_of_row _ W.heap.size j cs t (0, 0) (heap_alloc_new W _)]; simpa using hv
theorem Bx.alloc {W : World} {g : Nat} {cs : List Value} (h : Bx W g cs) (hg : g < W.heap.size) (o : Obj) : Bx (W.alloc o) g cs := fun j v hv => (World.cell?_alloc_lt W o ⟨g, j, none⟩ hg).trans (h j v hv)
structure Two (w W : World) (a b : List Value) : Prop where
  fst : Bx W w.heap.size a
  snd : Bx W (w.heap.size + 1) b
  below : Below w.heap.size w W
  size : w.heap.size + 2 ≤ W.heap.size
theorem Two.next {w W W' : World} {a b : List Value} (h : Two w W a b) (hb : Below W.heap.size W W') : Two w W' a b :=
  ⟨h.fst.below hb (by have := h.size; omega), h.snd.below hb (by have := h.size; omega), h.below.trans (hb.mono h.below.size), by have := h.size; have := hb.size; omega⟩
theorem two_new (w : World) (a b : Array Value) (s t : Nat) : Two w ((w.alloc (.cells a s)).alloc (.cells b t)) a.toList b.toList := by
  refine ⟨(bx_new w a s).alloc (by simp) _, ?_, (below_alloc _ _).trans (below_alloc2 (by simp) _), by simp⟩
  have := bx_new (w.alloc (.cells a s)) b t
  rwa [show (w.alloc (.cells a s)).heap.size = w.heap.size + 1 from by simp] at this
theorem bx3 {W : World} {g : Nat} {a b c : Value} (h : Bx W g [a, b, c]) : W.cell? ⟨g, 0, none⟩ = some a ∧ W.cell? ⟨g, 1, none⟩ = some b ∧ W.cell? ⟨g, 2, none⟩ = some c := ⟨h 0 _ rfl, h 1 _ rfl, h 2 _ rfl⟩
theorem bx4 {W : World} {g : Nat} {a b c d : Value} (h : Bx W g [a, b, c, d]) : W.cell? ⟨g, 0, none⟩ = some a ∧ W.cell? ⟨g, 1, none⟩ = some b ∧ W.cell? ⟨g, 2, none⟩ = some c ∧ W.cell? ⟨g, 3, none⟩ = some d := ⟨h 0 _ rfl, h 1 _ rfl, h 2 _ rfl, h 3 _ rfl⟩
theorem below_drews (B : Nat) (w : World) (n : Nat) : Below B w (w.drewN n) := ⟨rfl, rfl, rfl, Nat.le_refl _, fun _ _ => rfl⟩
structure One (w W : World) (a : List Value) : Prop where
  fst : Bx W w.heap.size a
  below : Below w.heap.size w W
  size : w.heap.size + 1 ≤ W.heap.size
theorem One.next {w W W' : World} {a : List Value} (h : One w W a) (hb : Below W.heap.size W W') : One w W' a :=
  ⟨h.fst.below hb (by have := h.size; omega), h.below.trans (hb.mono h.below.size), by have := h.size; have := hb.size; omega⟩
theorem one_new (w : World) (a : Array Value) (s : Nat) : One w (w.alloc (.cells a s)) a.toList := ⟨bx_new w a s, below_alloc _ _, by simp⟩
structure Three (w W : World) (a b c : List Value) : Prop where
  two : Two w W a b
  thd : Bx W (w.heap.size + 2) c
  size : w.heap.size + 3 ≤ W.heap.size
theorem Three.next {w W W' : World} {a b c : List Value} (h : Three w W a b c) (hb : Below W.heap.size W W') : Three w W' a b c :=
  ⟨h.two.next hb, h.thd.below hb (by have := h.size; omega), by have := h.size; have := hb.size; omega⟩
theorem three_new (w : World) (a b c : Array Value) (s t u : Nat) : Three w (((w.alloc (.cells a s)).alloc (.cells b t)).alloc (.cells c u)) a.toList b.toList c.toList := by
  have hT := two_new w a b s t
  refine ⟨hT.next (below_alloc _ _), ?_, by simp⟩
  have := bx_new ((w.alloc (.cells a s)).alloc (.cells b t)) c u
  rwa [show ((w.alloc (.cells a s)).alloc (.cells b t)).heap.size = w.heap.size + 2 from by simp] at this
theorem bx5 {W : World} {g : Nat} {a b c d e : Value} (hb : Bx W g [a, b, c, d, e]) : W.cell? ⟨g, 0, none⟩ = some a ∧ W.cell? ⟨g, 1, none⟩ = some b ∧ W.cell? ⟨g, 2, none⟩ = some c ∧ W.cell? ⟨g, 3, none⟩ = some d ∧ W.cell? ⟨g, 4, none⟩ = some e := ⟨hb 0 _ rfl, hb 1 _ rfl, hb 2 _ rfl, hb 3 _ rfl, hb 4 _ rfl⟩
theorem bx9 {W : World} {g : Nat} {a b c d e f h i j : Value} (hb : Bx W g [a, b, c, d, e, f, h, i, j]) : W.cell? ⟨g, 0, none⟩ = some a ∧ W.cell? ⟨g, 1, none⟩ = some b ∧ W.cell? ⟨g, 2, none⟩ = some c ∧ W.cell? ⟨g, 3, none⟩ = some d ∧ W.cell? ⟨g, 4, none⟩ = some e ∧ W.cell? ⟨g, 5, none⟩ = some f ∧ W.cell? ⟨g, 6, none⟩ = some h ∧ W.cell? ⟨g, 7, none⟩ = some i ∧ W.cell? ⟨g, 8, none⟩ = some j := ⟨hb 0 _ rfl, hb 1 _ rfl, hb 2 _ rfl, hb 3 _ rfl, hb 4 _ rfl, hb 5 _ rfl, hb 6 _ rfl, hb 7 _ rfl, hb 8 _ rfl⟩
theorem bx2 {W : World} {g : Nat} {a b : Value} (h : Bx W g [a, b]) : W.cell? ⟨g, 0, none⟩ = some a ∧ W.cell? ⟨g, 1, none⟩ = some b := ⟨h 0 _ rfl, h 1 _ rfl⟩
theorem bx6 {W : World} {g : Nat} {a b c d e f : Value} (hb : Bx W g [a, b, c, d, e, f]) : W.cell? ⟨g, 0, none⟩ = some a ∧ W.cell? ⟨g, 1, none⟩ = some b ∧ W.cell? ⟨g, 2, none⟩ = some c ∧ W.cell? ⟨g, 3, none⟩ = some d ∧ W.cell? ⟨g, 4, none⟩ = some e ∧ W.cell? ⟨g, 5, none⟩ = some f := ⟨hb 0 _ rfl, hb 1 _ rfl, hb 2 _ rfl, hb 3 _ rfl, hb 4 _ rfl, hb 5 _ rfl⟩
theorem bx7 {W : World} {g : Nat} {a b c d e f h : Value} (hb : Bx W g [a, b, c, d, e, f, h]) : W.cell? ⟨g, 0, none⟩ = some a ∧ W.cell? ⟨g, 1, none⟩ = some b ∧ W.cell? ⟨g, 2, none⟩ = some c ∧ W.cell? ⟨g, 3, none⟩ = some d ∧ W.cell? ⟨g, 4, none⟩ = some e ∧ W.cell? ⟨g, 5, none⟩ = some f ∧ W.cell? ⟨g, 6, none⟩ = some h :=
  ⟨hb 0 _ rfl, hb 1 _ rfl, hb 2 _ rfl, hb 3 _ rfl, hb 4 _ rfl, hb 5 _ rfl, hb 6 _ rfl⟩
structure Turn (lo hi : Nat) (w W : World) : Prop where
  os : W.os = w.os
  tape : W.tape = w.tape
  output : W.output = w.output
  size : w.heap.size ≤ W.heap.size
  block : ∀ k, k < w.heap.size → (k < lo ∨ hi ≤ k) → W.heap[k]? = w.heap[k]?
theorem Turn.refl (lo hi : Nat) (w : World) : Turn lo hi w w := ⟨rfl, rfl, rfl, Nat.le_refl _, fun _ _ _ => rfl⟩
theorem Turn.trans {lo hi : Nat} {a b c : World} (h1 : Turn lo hi a b) (h2 : Turn lo hi b c) : Turn lo hi a c :=
  ⟨h2.os.trans h1.os, h2.tape.trans h1.tape, h2.output.trans h1.output, Nat.le_trans h1.size h2.size, fun k hk hr => (h2.block k (Nat.lt_of_lt_of_le hk h1.size) hr).trans (h1.block k hk hr)⟩
theorem Turn.of_below {lo hi : Nat} {w W : World} (h : Below w.heap.size w W) : Turn lo hi w W :=
  ⟨h.os, h.tape, h.output, h.size, fun k hk _ => h.block k hk⟩
theorem Turn.setCell {lo hi : Nat} {w W : World} (h : Turn lo hi w W) {a : Addr} (ha : lo ≤ a.block ∧ a.block < hi) (v : Value) : Turn lo hi w (W.setCell a v) :=
  ⟨h.os, h.tape, h.output, by simpa using h.size, fun k hk hr => (heap_setCell_other _ _ _ _ (by omega)).trans (h.block k hk hr)⟩
theorem Turn.drewN {lo hi : Nat} {w W : World} (h : Turn lo hi w W) (n : Nat) : Turn lo hi w (W.drewN n) := ⟨h.os, h.tape, h.output, h.size, h.block⟩
theorem Turn.below {lo hi : Nat} {w W : World} (h : Turn lo hi w W) (hl : lo ≤ w.heap.size) : Below lo w W :=
  ⟨h.os, h.tape, h.output, h.size, fun k hk => h.block k (by omega) (.inl hk)⟩
theorem Turn.cell {lo hi : Nat} {w W : World} (h : Turn lo hi w W) {a : Addr} {v : Value} (hc : w.cell? a = some v) (ha : a.block < lo ∨ hi ≤ a.block) : W.cell? a = some v := by
  have := h.block a.block (block_lt_of_cell hc) ha
  simp only [World.cell?, this]
  exact hc
theorem frozen_block {w W : World} {a : Addr} (h : W.heap[a.block]? = w.heap[a.block]?) : W.frozen? a = w.frozen? a := by simp only [World.frozen?, h]
theorem Bx.turn {lo hi g : Nat} {cs : List Value} {W W' : World} (h : Bx W g cs) (ht : Turn lo hi W W') (_ : g < W.heap.size) (hg : hi ≤ g) : Bx W' g cs := fun j v hv => ht.cell (h j v hv) (.inr hg)
theorem Turn.below2 {lo hi B : Nat} {w W W' : World} (h : Turn lo hi w W) (hb : Below B W W') (hB : w.heap.size ≤ B) : Turn lo hi w W' :=
  ⟨hb.os.trans h.os, hb.tape.trans h.tape, hb.output.trans h.output, Nat.le_trans h.size hb.size, fun k hk hr => (hb.block k (by omega)).trans (h.block k hk hr)⟩
end Go.Proofs.YtkiilaajomjinaaGreatDoor

/- expr.measure, walked: parts are counted up to the limit, and the depth is told. Conditions: the expression lies in memory, below the counter. -/
namespace Go.Proofs.YtkiilaajomjinaaGreatDoor
open Go.RowKit
/-- The counter's cell. -/
def Cnt (W : World) (pb c : Nat) : Prop := W.cell? ⟨pb, 0, none⟩ = some (.int .i64 (c : Nat)) ∧ W.frozen? ⟨pb, 0, none⟩ = false ∧ pb < W.heap.size
/-- What measure leaves. -/
def MsR (w : World) (pb c d : Nat) (e : Ex) : Ending → World → Prop := fun x W => ∃ r : Nat, x = .returned (.int .i64 (r : Nat)) ∧ r ≤ 101 ∧ (c + nP e ≤ 100 → r + 1 = d + dP e) ∧ Cnt W pb (min 101 (c + nP e)) ∧ Turn pb (pb + 1) w W
set_option maxRecDepth 100000 in
set_option maxHeartbeats 3200000 in
theorem measure_any : ∀ (e : Ex) (lo pb c d : Nat) (vs : List Value) (w : World), LiesE w lo vs e → lo ≤ pb → Cnt w pb c → c ≤ 100 → d ≤ c + 1 →
    Calls Tryz.prog 90 #[.agg vs.toArray, .int .i64 (d : Nat), .pointer (some ⟨pb, 0, none⟩)] w (MsR w pb c d e) := by
  intro e
  induction e using Ex.ind with
  | h k o n v xs ih =>
    intro lo pb c d vs w hL hlo hC hc hd
    obtain ⟨A, cap, rfl, bd, harg⟩ := hL.arg
    obtain ⟨c0, f0, hpb⟩ := hC
    have hll : xs.length ≤ 9223372036854775807 := bd.2.2.2.2.1
    have hnP : nP (Ex.mk k o n v xs) = nPL xs + 1 := by simp [nP]
    have hdP : dP (Ex.mk k o n v xs) = dPL xs + 1 := by simp [dP]
    have hT0 := (Turn.of_below (lo := pb) (hi := pb + 1) (below_alloc w (.cells #[.int .i64 k, .int .i64 o, .string n, .int .i64 v, .slice A xs.length cap] 51)))
    have hB0 := bx_new w #[.int .i64 k, .int .i64 o, .string n, .int .i64 v, .slice A xs.length cap] 51
    have hz0 : (w.alloc (.cells #[.int .i64 k, .int .i64 o, .string n, .int .i64 v, .slice A xs.length cap] 51)).heap.size = w.heap.size + 1 := by simp
    have c1 := (World.cell?_alloc_lt w (.cells #[.int .i64 k, .int .i64 o, .string n, .int .i64 v, .slice A xs.length cap] 51) ⟨pb, 0, none⟩ hpb).trans c0
    have f1 := ((below_alloc w (.cells #[.int .i64 k, .int .i64 o, .string n, .int .i64 v, .slice A xs.length cap] 51)).frozen (p := ⟨pb, 0, none⟩) hpb).trans f0
    have hwr : IntKind.i64.wrap ((c : Int) + 1) = (c : Int) + 1 := by rw [IntKind.wrap_i64]; omega
    have HARG := Lib.hid harg
    have HIH := Lib.hid ih
    simp only [Ex.kind, Ex.op, Ex.name, Ex.val, Ex.args] at HARG ⊢
    clear harg ih hL bd
    unfold exC MsR
    rw [hnP, hdP]
    clear hnP hdP c0 f0
    go_enter Tryz.func90, Tryz.ntmps90
    go_upto_region 1 with fail
    generalize w.alloc _ = w1 at hT0 hB0 hz0 c1 f1 ⊢
    go_upto_region 2 with fail
    have c2 : (w1.setCell ⟨pb, 0, none⟩ (.int .i64 ((c : Int) + 1))).cell? ⟨pb, 0, none⟩ = some (.int .i64 ((c : Int) + 1)) := World.cell?_setCell_same _ _ _ c1
    have f2 : (w1.setCell ⟨pb, 0, none⟩ (.int .i64 ((c : Int) + 1))).frozen? ⟨pb, 0, none⟩ = false := by rw [World.frozen?_setCell]; exact f1
    have hT2 := hT0.setCell (a := ⟨pb, 0, none⟩) ⟨Nat.le_refl _, by show pb < pb + 1; omega⟩ (.int .i64 ((c : Int) + 1))
    have hB2 : Bx (w1.setCell ⟨pb, 0, none⟩ (.int .i64 ((c : Int) + 1))) w.heap.size [.int .i64 k, .int .i64 o, .string n, .int .i64 v, .slice A xs.length cap] := fun j u hu => (World.cell?_setCell_far _ _ _ _ (by show pb ≠ w.heap.size; omega)).trans (hB0 j u hu)
    have hz2 : (w1.setCell ⟨pb, 0, none⟩ (.int .i64 ((c : Int) + 1))).heap.size = w.heap.size + 1 := by simpa using hz0
    clear c1 f1 hT0 hB0 hz0 hwr
    generalize w1.setCell _ _ = w2 at c2 f2 hT2 hB2 hz2 ⊢
    obtain ⟨x0, x1, x2, x3, x4⟩ := bx5 hB2
    by_cases hcl : c = 100
    · subst hcl
      go_wp2_with fail
      go_ret
      exact ⟨d, rfl, by omega, fun h => by have := nP_pos (Ex.mk k o n v xs); omega, ⟨by rw [show min 101 (100 + (nPL xs + 1)) = 101 by omega]; exact c2, f2, by omega⟩, hT2⟩
    have hd1 : decide ((100 : Int) < (c : Int) + 1) = false := decide_eq_false (by omega)
    have hd2 : decide ((100 : Int) < (d : Int)) = false := decide_eq_false (by omega)
    go_wp2_with fail
    clear x0 x1 x2 x3 x4 hd1
    have HB := Lib.hid hB2
    clear hB2
    go_loopw [7, 28] (fun dv i wr => ∃ j r cc : Nat, i = .int .i64 (j : Nat) ∧ dv = .int .i64 (r : Nat) ∧ j ≤ xs.length ∧ r ≤ 101 ∧ Hid (cc = min 101 (c + 1 + nPL (xs.take j))) ∧ Hid (c + 1 + nPL (xs.take j) ≤ 100 → r = d + dPL (xs.take j)) ∧ wr.cell? ⟨pb, 0, none⟩ = some (.int .i64 (cc : Nat)) ∧ wr.frozen? ⟨pb, 0, none⟩ = false ∧ Turn pb (pb + 1) w wr ∧ w.heap.size + 1 ≤ wr.heap.size) (fun _ i _ => xs.length - (intOf i).toNat)
    case atStart => exact ⟨0, d, c + 1, rfl, rfl, Nat.zero_le _, by omega, Lib.hid (by simp [nPL]; omega), Lib.hid (fun _ => by simp [dPL]), c2, f2, hT2, by omega⟩
    case round =>
      clear c2 f2 hT2 hz2
      obtain ⟨j, r, cc, rfl, rfl, hj, hr, hcc, hrd, c3, f3, hT3, hz3⟩ := hrel
      have hj0 : (0 : Int) ≤ (j : Int) := by omega
      by_cases hlt : j < xs.length
      · have hd1 : decide ((j : Int) < (xs.length : Int)) = true := decide_eq_true (by omega)
        have hd3 : decide (j < xs.length) = true := decide_eq_true hlt
        have hwr1 : IntKind.i64.wrap ((j : Int) + 1) = (j : Int) + 1 := by rw [IntKind.wrap_i64]; omega
        have hjl : (j : Int) < (xs.length : Int) := by omega
        obtain ⟨b, off, k1, o1, n1, v1, A1, m1, cap1, rfl, hb, hL1, y0, y1, y2, y3, y4⟩ := HARG.out j hlt
        have z0 := hT3.cell y0 (.inl (by show b < pb; omega))
        have z1 := hT3.cell y1 (.inl (by show b < pb; omega))
        have z2 := hT3.cell y2 (.inl (by show b < pb; omega))
        have z3 := hT3.cell y3 (.inl (by show b < pb; omega))
        have z4 := hT3.cell y4 (.inl (by show b < pb; omega))
        have hL3 := hL1.below' (hT3.below (by omega)) hlo
        have hO := one_new wr #[.int .i64 k1, .int .i64 o1, .string n1, .int .i64 v1, .slice A1 m1 cap1] 51
        clear y0 y1 y2 y3 y4
        go_upto_region 8 with fail
        generalize wr.alloc _ = w4 at hO ⊢
        have hpb3 : pb < wr.heap.size := by omega
        have c4 := (hO.below.cell (p := ⟨pb, 0, none⟩) hpb3).trans c3
        have f4 := (hO.below.frozen (p := ⟨pb, 0, none⟩) hpb3).trans f3
        have hT4 := hT3.below2 hO.below (by omega)
        have hL4 := hL3.below' hO.below (by omega)
        obtain ⟨x0, x1, x2, x3, x4⟩ := bx5 hO.fst
        have hz4 := hO.size
        clear hO hT3 hL1 hL3 c3 f3 z0 z1 z2 z3 z4 hd1 hd3 hjl
        by_cases hcl1 : 100 < cc
        · have e1 : decide ((100 : Int) < (cc : Int)) = true := decide_eq_true (by omega)
          have e2 : decide (100 < cc) = true := decide_eq_true hcl1
          have HF : Hid (min 101 (c + (nPL xs + 1)) = cc ∧ ¬ (c + (nPL xs + 1) ≤ 100)) := Lib.hid (by have h1 := hcc.out; have h2 := nPL_take_le xs j; exact ⟨by omega, by omega⟩)
          clear hcl1 hcc
          go_wp2_with fail
          refine bodyPost_ret (results_tmp rfl _ _ _) rfl ?_
          exact ⟨r, rfl, hr, fun h => absurd h HF.out.2, ⟨by rw [HF.out.1]; exact c4, f4, by omega⟩, hT4⟩
        · have e1 : decide ((100 : Int) < (cc : Int)) = false := decide_eq_false (by omega)
          have e2 : decide (100 < cc) = false := decide_eq_false hcl1
          have hcc1 : cc = c + 1 + nPL (xs.take j) := by have := hcc.out; omega
          have hs := HIH.out xs[j] (List.getElem_mem _) lo pb cc (d + 1) (exC k1 o1 n1 v1 A1 m1 cap1) w4 hL4 hlo ⟨c4, f4, by omega⟩ (by omega) (by omega)
          rw [Int.natCast_succ] at hs
          have HS := Lib.hid hs
          have HT1 := Lib.hid (nP_take xs j hlt)
          have HT2 := Lib.hid (dP_take xs j hlt)
          have HR := Lib.hid (hrd.out (by omega))
          have HCC := Lib.hid hcc1
          have hwd : IntKind.i64.wrap ((d : Int) + 1) = (d : Int) + 1 := by rw [IntKind.wrap_i64]; omega
          unfold exC at HS
          clear hcc1 hcc hrd hL4 hs
          go_wp2_with fail
          refine HS.out.mono ?_
          rintro e w5 ⟨r5, rfl, hr5, hrd5, hC5, hT5⟩
          have HRD := Lib.hid hrd5
          have HC5 := Lib.hid hC5
          have hz5 := hT5.size
          have hT6 := hT4.trans hT5
          clear hrd5 hC5 hT5 hT4 c4 f4 x0 x1 x2 x3 x4 HS
          go_wp2_with fail
          exact ⟨⟨j + 1, max r r5, min 101 (cc + nP xs[j]), by go_num, by rw [show (if r < r5 then (r5 : Int) else (r : Int)) = ((max r r5 : Nat) : Int) by split <;> omega], by omega, by omega,
            Lib.hid (by have := HT1.out; have := HCC.out; omega), Lib.hid (fun h => by have h1 := HT1.out; have h2 := HT2.out; have h3 := HCC.out; have h4 := HRD.out (by omega); have h5 := HR.out; have h6 := dP_pos xs[j]; omega),
            HC5.out.1, HC5.out.2.1, hT6, by omega⟩, by simp [intOf]; omega⟩
      · have hd1 : decide ((j : Int) < (xs.length : Int)) = false := decide_eq_false (by omega)
        have hd3 : decide (j < xs.length) = false := decide_eq_false hlt
        have htk : xs.take j = xs := List.take_of_length_le (by omega)
        have HF : Hid (cc = min 101 (c + (nPL xs + 1))) := Lib.hid (by have := hcc.out; rw [htk] at this; omega)
        have HG : Hid (c + (nPL xs + 1) ≤ 100 → r + 1 = d + (dPL xs + 1)) := Lib.hid (fun h => by have := hrd.out; rw [htk] at this; have := this (by omega); omega)
        clear hcc hrd htk
        go_wp2_with fail
        refine bodyPost_ret (results_tmp rfl _ _ _) rfl ?_
        exact ⟨r, rfl, hr, HG.out, ⟨by rw [← HF.out]; exact c3, f3, by omega⟩, hT3⟩
end Go.Proofs.YtkiilaajomjinaaGreatDoor
