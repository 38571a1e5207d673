/- The lock analysis in plain Lean: what each function of lockorder computes. Conditions: non · lockorder's grow, walked: a place of the analysis' state grows. Conditions: the places lie · The analysis' state in memory, and how a place of it g -/
import Derived.Test.YtkpjdanfpolimaaGreatLgBase
import Derived.BigQuiet
import Derived.Lib.Hide
import Derived.Test.YtkpjdanfpolimaaGreatLgRefOb
import Derived.Deep.RegionHeld
import Derived.StillTailTactics
import Derived.Test.YtkpjdanfpolimaaGreatLgCfn
import Derived.Test.YtkpjdanfpolimaaGreatLgVar
import Derived.Lib.QuietBelow
import Derived.Deep.CutRange
set_option maxRecDepth 100000
set_option maxHeartbeats 6400000
namespace Go.Proofs.YtkpjdanfpolimaaGreat
section
open Go.RowKit
abbrev BS := BitVec 32
def sv (s : BS) : Value := .int .u32 (s.toNat : Int)
def bit (n : Nat) : BS := 1#32 <<< n
instance : Inhabited Ins := ⟨⟨0, 0, 0, 0, [], none, 0⟩⟩
instance : Inhabited Fn := ⟨⟨ByteArray.empty, 0, 0, 0, false, [], none, 0⟩⟩
instance : Inhabited Ob := ⟨⟨ByteArray.empty, 0, 0, 0⟩⟩
def Prg.fn (p : Prg) (f : Nat) : Fn := p.funs.getD f default
def Fn.ins (x : Fn) (k : Nat) : Ins := x.code.getD k default
def Prg.len (p : Prg) (f : Nat) : Nat := (p.fn f).code.length
def Prg.ins (p : Prg) (f k : Nat) : Ins := (p.fn f).ins k
inductive Slot where
 | ent (f : Nat)
 | fin (f : Nat)
 | at_ (f k : Nat)
 deriving DecidableEq
structure S where
 ent : List (Bool × BS)
 fin : List (Bool × BS)
 cell : List (List (Bool × BS))
 ch : Bool
 deriving DecidableEq
def S.get (s : S) : Slot → Bool × BS
 | .ent f => s.ent.getD f (false, 0)
 | .fin f => s.fin.getD f (false, 0)
 | .at_ f k => (s.cell.getD f []).getD k (false, 0)
def S.set (s : S) : Slot → Bool × BS → S
 | .ent f, v => { s with ent := s.ent.set f v }
 | .fin f, v => { s with fin := s.fin.set f v }
 | .at_ f k, v => { s with cell := s.cell.set f ((s.cell.getD f []).set k v) }
structure S.Sized (p : Prg) (s : S) : Prop where
 ent : s.ent.length = p.funs.length
 fin : s.fin.length = p.funs.length
 cell : s.cell.length = p.funs.length
 row : ∀ f, f < p.funs.length → (s.cell.getD f []).length = p.len f
def Slot.In (p : Prg) : Slot → Prop
 | .ent f => f < p.funs.length
 | .fin f => f < p.funs.length
 | .at_ f k => f < p.funs.length ∧ k < p.len f
theorem S.Sized.set {p : Prg} {s : S} (h : s.Sized p) (x : Slot) (v : Bool × BS) : (s.set x v).Sized p := by
 cases x with
 | ent f => exact ⟨by simp [S.set, h.ent], h.fin, h.cell, h.row⟩
 | fin f => exact ⟨h.ent, by simp [S.set, h.fin], h.cell, h.row⟩
 | at_ f k =>
  refine ⟨h.ent, h.fin, by simp [S.set, h.cell], fun g hg => ?_⟩;simp only [S.set];by_cases e : f = g
  ·subst e
   rw [List.getD_eq_getElem?_getD, List.getElem?_set_self (by rw [h.cell]; exact hg)];simp only [Option.getD_some, List.length_set];exact h.row f hg
  ·rw [List.getD_eq_getElem?_getD, List.getElem?_set_ne e, ← List.getD_eq_getElem?_getD]
   exact h.row g hg
theorem S.get_set {p : Prg} {s : S} (h : s.Sized p) {x : Slot} (hx : x.In p) (v : Bool × BS) (y : Slot) : (s.set x v).get y = if y = x then v else s.get y := by
 cases x with
 | ent f =>
  cases y with
  | ent g =>
   simp only [S.set, S.get, Slot.ent.injEq, List.getD_eq_getElem?_getD];by_cases e : g = f
   ·subst e
    rw [if_pos rfl, List.getElem?_set_self (by rw [h.ent]; exact hx)]; rfl
   ·rw [if_neg e, List.getElem?_set_ne (fun z => e z.symm)]
  | fin g => simp [S.set, S.get]
  | at_ g k => simp [S.set, S.get]
 | fin f =>
  cases y with
  | fin g =>
   simp only [S.set, S.get, Slot.fin.injEq, List.getD_eq_getElem?_getD];by_cases e : g = f
   ·subst e
    rw [if_pos rfl, List.getElem?_set_self (by rw [h.fin]; exact hx)]; rfl
   ·rw [if_neg e, List.getElem?_set_ne (fun z => e z.symm)]
  | ent g => simp [S.set, S.get]
  | at_ g k => simp [S.set, S.get]
 | at_ f k =>
  cases y with
  | ent g => simp [S.set, S.get]
  | fin g => simp [S.set, S.get]
  | at_ g j =>
   simp only [S.set, S.get, Slot.at_.injEq, List.getD_eq_getElem?_getD];by_cases e : g = f
   ·subst e
    rw [List.getElem?_set_self (by rw [h.cell]; exact hx.1)];simp only [Option.getD_some, true_and];by_cases e2 : j = k
    ·subst e2
     have hr := h.row g hx.1;rw [List.getD_eq_getElem?_getD] at hr;rw [if_pos rfl, List.getElem?_set_self (by rw [hr]; exact hx.2)]; rfl
    ·rw [if_neg e2, List.getElem?_set_ne (fun z => e2 z.symm)]
   ·rw [if_neg (fun z => e z.1), List.getElem?_set_ne (fun z => e z.symm)]
def S.grow (s : S) (x : Slot) (l : BS) : S :=
 { s.set x (true, (s.get x).2 ||| l) with ch := s.ch || !(s.get x).1 || (s.get x).2 ||| l != (s.get x).2 }
theorem S.Sized.grow {p : Prg} {s : S} (h : s.Sized p) (x : Slot) (l : BS) : (s.grow x l).Sized p :=
 ⟨(h.set x _).ent, (h.set x _).fin, (h.set x _).cell, (h.set x _).row⟩
theorem S.get_grow {p : Prg} {s : S} (h : s.Sized p) {x : Slot} (hx : x.In p) (l : BS) (y : Slot) : (s.grow x l).get y = if y = x then (true, (s.get x).2 ||| l) else s.get y :=
 (show (s.grow x l).get y = (s.set x (true, (s.get x).2 ||| l)).get y from by cases y <;> rfl).trans (S.get_set h hx _ y)
def acq (p : Prg) (i : Ins) : Option Int :=
 if i.op = 50 ∨ i.op = 53 ∨ i.op = 55 then some i.a
 else if i.op = 51 then some i.b
 else if i.op = 57 then some (p.obs.getD i.a.toNat default).other
 else none
def acqBit (p : Prg) (i : Ins) : BS := match acq p i with | some l => bit l.toNat | none => 0
def allM (p : Prg) : BS := p.funs.foldl (fun s f => f.code.foldl (fun s i => s ||| acqBit p i) s) 0
def cleanM (p : Prg) : BS := p.funs.foldl (fun s f => f.code.foldl (fun s i => if f.clean then s ||| acqBit p i else s) s) 0
def startM (p : Prg) : S := ⟨List.replicate p.funs.length (false, 0), List.replicate p.funs.length (false, 0), p.funs.map (fun f => List.replicate f.code.length (false, 0)), false⟩
def nextRaw (i : Ins) (k : Nat) : List Nat := if i.op = 16 ∨ i.op = 21 then [] else if i.op = 13 then [i.a.toNat] else if i.op = 14 then [k + 1, i.b.toNat] else if i.op = 35 then [k + 1, i.c.toNat] else [k + 1]
def asc2 (l : List Nat) : List Nat := match l with
 | [x, y] => if x = y then [x] else if x < y then [x, y] else [y, x]
 | l => l
def nextM (p : Prg) (f k : Nat) : List Nat := asc2 ((nextRaw (p.ins f k) k).filter (fun n => decide (n < p.len f)))
def S.enter (p : Prg) (s : S) (f : Nat) (l : BS) : S :=
 let s1 := s.grow (.ent f) l
 if p.len f = 0 then s1 else s1.grow (.at_ f 0) (s1.get (.ent f)).2
def S.behind (p : Prg) (s : S) (f k : Nat) : BS × Bool :=
 let i := p.ins f k
 if i.op = 15 then ((s.get (.fin i.b.toNat)).2, (s.get (.fin i.b.toNat)).1)
 else if i.op = 36 then ((s.get (.at_ f k)).2 ||| cleanM p, true)
 else if i.op = 52 ∨ i.op = 54 ∨ i.op = 56 then ((s.get (.at_ f k)).2 &&& ~~~ bit i.a.toNat, true)
 else ((s.get (.at_ f k)).2 ||| acqBit p i, true)
def S.leaveStep (p : Prg) (f : Nat) (s : S) (k : Nat) : S :=
 if (s.get (.at_ f k)).1 then
  let op := (p.ins f k).op
  let s1 := if op = 16 then s.grow (.fin f) (s.get (.at_ f k)).2 else s
  if k + 1 = p.len f ∧ op ≠ 13 ∧ op ≠ 16 ∧ op ≠ 21 ∧ (s1.behind p f k).2 = true then s1.grow (.fin f) (s1.behind p f k).1 else s1
 else s
def S.leave (p : Prg) (s : S) (f : Nat) : S :=
 (List.range (p.len f)).foldl (S.leaveStep p f) (if p.len f = 0 ∧ (s.get (.ent f)).1 = true then s.grow (.fin f) (s.get (.ent f)).2 else s)
def fromM (p : Prg) (f : Nat) (stop : Int) : Nat → List Nat → List Nat → List Nat
 | 0, _, _ => []
 | _ + 1, _, [] => []
 | n + 1, seen, k :: l => if p.len f ≤ k ∨ (k : Int) = stop ∨ k ∈ seen then fromM p f stop n seen l else k :: fromM p f stop n (k :: seen) (l ++ nextM p f k)
def fromL (p : Prg) (f start : Nat) (stop : Int) : List Nat := fromM p f stop (3 * p.len f + 2) [] [start]
def insideM (p : Prg) (f k : Nat) : List Nat :=
 let stop := (p.ins f k).c
 if (fromL p f (k + 1) stop).any (fun j => decide ((p.ins f j).op = 35 ∧ (p.ins f j).c = stop)) then fromL p f (k + 1) (-1) else fromL p f (k + 1) stop
def S.visit (p : Prg) (s : S) : Nat → List Nat × BS → Nat → List Nat × BS
 | 0, a, _ => a
 | n + 1, a, f => if f ∈ a.1 then a else
   (List.range (p.len f)).foldl (fun a k => if (s.get (.at_ f k)).1 then
    (if (p.ins f k).op = 15 then S.visit p s n (a.1, a.2 ||| (s.get (.at_ f k)).2) (p.ins f k).b.toNat else (a.1, a.2 ||| (s.get (.at_ f k)).2)) else a) (f :: a.1, a.2)
def S.within (p : Prg) (s : S) (f : Nat) : BS := (s.visit p (p.funs.length + 1) ([], 0) f).2
def S.openStep (p : Prg) (f stop : Nat) (s : S) (j : Nat) : S :=
 if (s.get (.at_ f j)).1 then
  let s1 := s.grow (.at_ f stop) (s.get (.at_ f j)).2
  if (p.ins f j).op = 15 then s1.grow (.at_ f stop) (s1.within p (p.ins f j).b.toNat) else s1
 else s
def S.open_ (p : Prg) (s : S) (f k : Nat) : S :=
 (insideM p f k).foldl (S.openStep p f (p.ins f k).c.toNat) (s.grow (.at_ f (p.ins f k).c.toNat) (cleanM p))
def S.instruction (p : Prg) (s : S) (f k : Nat) : S :=
 let i := p.ins f k
 let s1 := if i.op = 34 then s.enter p i.b.toNat 0 else if i.op = 15 then s.enter p i.b.toNat (s.get (.at_ f k)).2 else if i.op = 17 then s.enter p i.b.toNat (allM p) else if i.op = 35 then s.open_ p f k else s
 if (s1.behind p f k).2 then (nextM p f k).foldl (fun s j => s.grow (.at_ f j) (s1.behind p f k).1) s1 else s1
def S.roundF (p : Prg) (s : S) (f : Nat) : S :=
 ((List.range (p.len f)).foldl (fun s k => if (s.get (.at_ f k)).1 then s.instruction p f k else s) s).leave p f
def S.round (p : Prg) (s : S) : S := (List.range p.funs.length).foldl (S.roundF p) { s with ch := false }
def S.iter (p : Prg) : Nat → S → S
 | 0, s => s
 | n + 1, s => if s.ch then S.iter p n (s.round p) else s
def Prg.rounds (p : Prg) : Nat := 33 * (2 * p.funs.length + (p.funs.map (fun f => f.code.length)).sum) + 2
def listM (s : BS) : List Nat := (List.range 16).filter (fun i => s.getLsbD i)
def toStep (p : Prg) (s : S) (f : Nat) (t : List BS) (k : Nat) : List BS :=
 let i := p.ins f k
 match acq p i with
 | none => t
 | some l => if i.op = 51 ∨ (s.get (.at_ f k)).1 = false then t else
   (listM (s.get (.at_ f k)).2).foldl (fun (t : List BS) (h : Nat) => if (h : Int) ≠ l ∨ i.op ≠ 57 then t.set h (t.getD h 0 ||| bit l.toNat) else t) t
def toM (p : Prg) (s : S) : List BS :=
 (List.range p.funs.length).foldl (fun t f => (List.range (p.len f)).foldl (toStep p s f) t) (List.replicate p.obs.length 0)
def edgesOf (t : List BS) : List (Nat × Nat) := (List.range t.length).flatMap (fun h => (listM (t.getD h 0)).map (fun l => (h, l)))
end
section
open Go.RowKit
theorem or_sv (x y : BS) : bits .or .u32 (x.toNat : Int) (y.toNat : Int) = ((x ||| y).toNat : Int) := by
 have h : IntKind.u32.wrap (((BitVec.ofInt 32 (x.toNat : Int) ||| BitVec.ofInt 32 (y.toNat : Int) : BitVec 32).toNat : Nat) : Int) = ((x ||| y).toNat : Int) := by
  rw [BitVec.ofInt_natCast, BitVec.ofInt_natCast, BitVec.ofNat_toNat, BitVec.ofNat_toNat, BitVec.setWidth_eq, BitVec.setWidth_eq];have := (x ||| y).isLt;show ((((x ||| y).toNat : Int)) % 4294967296 : Int) = _;omega
 exact h
theorem ne_sv (x y : BS) : ((x.toNat : Int) != (y.toNat : Int)) = (x != y) := by
 rw [Bool.eq_iff_iff];simp only [bne_iff_ne, ne_eq, Int.natCast_inj, BitVec.toNat_inj]
def Grew (A bx ox by_ oy : Nat) (kn : Bool) (t l : BS) (w W : World) : Prop :=
 ∃ q, W = ((if !kn || (t ||| l) != t then (w.drewN q).setCell ⟨A, 11, none⟩ (.bool true) else w.drewN q).setCell ⟨bx, ox, none⟩ (.bool true)).setCell ⟨by_, oy, none⟩ (sv (t ||| l))
theorem grow_cells (w : World) (A bx ox by_ oy : Nat) (kn ch : Bool) (t l : BS) (hx : w.cell? ⟨bx, ox, none⟩ = some (.bool kn)) (hxf : w.frozen? ⟨bx, ox, none⟩ = false) (hy : w.cell? ⟨by_, oy, none⟩ = some (sv t)) (hyf : w.frozen? ⟨by_, oy, none⟩ = false)
  (hA : w.cell? ⟨A, 11, none⟩ = some (.bool ch)) (hAf : w.frozen? ⟨A, 11, none⟩ = false) (h1 : A ≠ bx) (h2 : A ≠ by_) (h3 : bx ≠ by_) :
  Calls Tryz.prog 84 #[.pointer (some ⟨A, 0, none⟩), .pointer (some ⟨bx, ox, none⟩), .pointer (some ⟨by_, oy, none⟩), sv l] w fun e W => e = .returned (.tuple #[]) ∧ Grew A bx ox by_ oy kn t l w W := by
 unfold sv at *;go_enter Tryz.func84, Tryz.ntmps84
 cases kn with
 | false =>
  go_wp2_with fail;go_quiet (fail);go_wp2_with fail;go_end0;refine ⟨rfl, nq, ?_⟩;rw [or_sv];rfl
 | true =>
  obtain ⟨c, hc⟩ : ∃ c, ((t ||| l) != t) = c := ⟨_, rfl⟩
  have hc2 : (bits .or .u32 (t.toNat : Int) (l.toNat : Int) != (t.toNat : Int)) = c := by rw [or_sv, ne_sv]; exact hc
  have HC := hid hc;clear hc;go_wp2_with fail;go_quiet (fail)
  cases c with
  | true =>
   go_wp2_with fail;go_end0;refine ⟨rfl, nq, ?_⟩;rw [or_sv, HC.out];rfl
  | false =>
   go_wp2_with fail;go_end0;refine ⟨rfl, nq, ?_⟩;rw [or_sv, HC.out];rfl
end
section
open Go.RowKit
structure Lay where
 lo : Nat
 hi : Nat
 A : Nat
 E : Nat
 W : Nat
 N : Nat
 F : Nat
 R : Nat
 B : Nat
 cR : Nat
 cB : Nat
 rb : Nat → Nat
 bb : Nat → Nat
def Lay.kA (L : Lay) : Slot → Addr
 | .ent f => ⟨L.E, f, none⟩
 | .fin f => ⟨L.N, f, none⟩
 | .at_ f k => ⟨L.rb f, k, none⟩
def Lay.tA (L : Lay) : Slot → Addr
 | .ent f => ⟨L.W, f, none⟩
 | .fin f => ⟨L.F, f, none⟩
 | .at_ f k => ⟨L.bb f, k, none⟩
structure Lay.Ok (p : Prg) (L : Lay) : Prop where
 tag : ∃ t : Nat → Nat × Nat, t L.A = (0, 0) ∧ t L.E = (1, 0) ∧ t L.W = (2, 0) ∧ t L.N = (3, 0) ∧ t L.F = (4, 0) ∧ t L.R = (5, 0) ∧ t L.B = (6, 0) ∧ (∀ f, f < p.funs.length → t (L.rb f) = (7, f)) ∧ (∀ f, f < p.funs.length → t (L.bb f) = (8, f))
 rng : ∀ b ∈ [L.A, L.E, L.W, L.N, L.F, L.R, L.B], L.lo ≤ b ∧ b < L.hi
 rngR : ∀ f, f < p.funs.length → (L.lo ≤ L.rb f ∧ L.rb f < L.hi) ∧ L.lo ≤ L.bb f ∧ L.bb f < L.hi
section
variable {p : Prg} {L : Lay} (h : L.Ok p)
include h
theorem Lay.Ok.kt {x y : Slot} (hx : x.In p) (hy : y.In p) : (L.kA x).block ≠ (L.tA y).block := by
 obtain ⟨t, t0, t1, t2, t3, t4, t5, t6, t7, t8⟩ := h.tag;intro e;have e := congrArg t e
 cases x with
 | ent f => cases y with
  | ent g => simp only [Lay.kA, Lay.tA, t1, t2] at e; cases e
  | fin g => simp only [Lay.kA, Lay.tA, t1, t4] at e; cases e
  | at_ g k => simp only [Lay.kA, Lay.tA, t1, t8 _ hy.1] at e; cases e
 | fin f => cases y with
  | ent g => simp only [Lay.kA, Lay.tA, t3, t2] at e; cases e
  | fin g => simp only [Lay.kA, Lay.tA, t3, t4] at e; cases e
  | at_ g k => simp only [Lay.kA, Lay.tA, t3, t8 _ hy.1] at e; cases e
 | at_ f j => cases y with
  | ent g => simp only [Lay.kA, Lay.tA, t7 _ hx.1, t2] at e; cases e
  | fin g => simp only [Lay.kA, Lay.tA, t7 _ hx.1, t4] at e; cases e
  | at_ g k => simp only [Lay.kA, Lay.tA, t7 _ hx.1, t8 _ hy.1] at e; cases e
theorem Lay.Ok.kk {x y : Slot} (hx : x.In p) (hy : y.In p) (e0 : L.kA x = L.kA y) : x = y := by
 obtain ⟨t, t0, t1, t2, t3, t4, t5, t6, t7, t8⟩ := h.tag;have e := congrArg (fun a : Addr => (t a.block, a.off)) e0
 cases x with
 | ent f => cases y with
  | ent g => simp only [Lay.kA, t1] at e; cases e; rfl
  | fin g => simp only [Lay.kA, t1, t3] at e; cases e
  | at_ g k => simp only [Lay.kA, t1, t7 _ hy.1] at e; cases e
 | fin f => cases y with
  | ent g => simp only [Lay.kA, t3, t1] at e; cases e
  | fin g => simp only [Lay.kA, t3] at e; cases e; rfl
  | at_ g k => simp only [Lay.kA, t3, t7 _ hy.1] at e; cases e
 | at_ f j => cases y with
  | ent g => simp only [Lay.kA, t7 _ hx.1, t1] at e; cases e
  | fin g => simp only [Lay.kA, t7 _ hx.1, t3] at e; cases e
  | at_ g k => simp only [Lay.kA, t7 _ hx.1, t7 _ hy.1] at e; cases e; rfl
theorem Lay.Ok.tt {x y : Slot} (hx : x.In p) (hy : y.In p) (e0 : L.tA x = L.tA y) : x = y := by
 obtain ⟨t, t0, t1, t2, t3, t4, t5, t6, t7, t8⟩ := h.tag;have e := congrArg (fun a : Addr => (t a.block, a.off)) e0
 cases x with
 | ent f => cases y with
  | ent g => simp only [Lay.tA, t2] at e; cases e; rfl
  | fin g => simp only [Lay.tA, t2, t4] at e; cases e
  | at_ g k => simp only [Lay.tA, t2, t8 _ hy.1] at e; cases e
 | fin f => cases y with
  | ent g => simp only [Lay.tA, t4, t2] at e; cases e
  | fin g => simp only [Lay.tA, t4] at e; cases e; rfl
  | at_ g k => simp only [Lay.tA, t4, t8 _ hy.1] at e; cases e
 | at_ f j => cases y with
  | ent g => simp only [Lay.tA, t8 _ hx.1, t2] at e; cases e
  | fin g => simp only [Lay.tA, t8 _ hx.1, t4] at e; cases e
  | at_ g k => simp only [Lay.tA, t8 _ hx.1, t8 _ hy.1] at e; cases e; rfl
theorem Lay.Ok.head {x : Slot} (hx : x.In p) {b : Nat} (hb : b = L.A ∨ b = L.R ∨ b = L.B) : b ≠ (L.kA x).block ∧ b ≠ (L.tA x).block := by
 obtain ⟨t, t0, t1, t2, t3, t4, t5, t6, t7, t8⟩ := h.tag;constructor
 ·intro e
  have e := congrArg t e
  cases x with
  | ent f => rcases hb with rfl | rfl | rfl <;> simp only [Lay.kA, t0, t1, t5, t6] at e <;> cases e
  | fin f => rcases hb with rfl | rfl | rfl <;> simp only [Lay.kA, t0, t3, t5, t6] at e <;> cases e
  | at_ f k => rcases hb with rfl | rfl | rfl <;> simp only [Lay.kA, t0, t7 _ hx.1, t5, t6] at e <;> cases e
 ·intro e
  have e := congrArg t e
  cases x with
  | ent f => rcases hb with rfl | rfl | rfl <;> simp only [Lay.tA, t0, t2, t5, t6] at e <;> cases e
  | fin f => rcases hb with rfl | rfl | rfl <;> simp only [Lay.tA, t0, t4, t5, t6] at e <;> cases e
  | at_ f k => rcases hb with rfl | rfl | rfl <;> simp only [Lay.tA, t0, t8 _ hx.1, t5, t6] at e <;> cases e
theorem Lay.Ok.hdA : L.R ≠ L.A ∧ L.B ≠ L.A := by
 obtain ⟨t, t0, t1, t2, t3, t4, t5, t6, t7, t8⟩ := h.tag;constructor
 ·intro e; have e := congrArg t e; rw [t5, t0] at e; cases e
 ·intro e; have e := congrArg t e; rw [t6, t0] at e; cases e
theorem Lay.Ok.kIn {x : Slot} (hx : x.In p) : L.lo ≤ (L.kA x).block ∧ (L.kA x).block < L.hi := by
 cases x with
 | ent f => exact h.rng L.E (by simp)
 | fin f => exact h.rng L.N (by simp)
 | at_ f k => exact (h.rngR f hx.1).1
theorem Lay.Ok.tIn {x : Slot} (hx : x.In p) : L.lo ≤ (L.tA x).block ∧ (L.tA x).block < L.hi := by
 cases x with
 | ent f => exact h.rng L.W (by simp)
 | fin f => exact h.rng L.F (by simp)
 | at_ f k => exact (h.rngR f hx.1).2
end
structure Turn (lo hi : Nat) (w W : World) : Prop where
 os : W.os = w.os
 tape : W.tape = w.tape
 output : W.output = w.output
 size : w.heap.size ≤ W.heap.size
 block : ∀ k, k < w.heap.size → (k < lo ∨ hi ≤ k) → W.heap[k]? = w.heap[k]?
theorem Turn.refl (lo hi : Nat) (w : World) : Turn lo hi w w := ⟨rfl, rfl, rfl, Nat.le_refl _, fun _ _ _ => rfl⟩
theorem Turn.trans {lo hi : Nat} {a b c : World} (h1 : Turn lo hi a b) (h2 : Turn lo hi b c) : Turn lo hi a c :=
 ⟨h2.os.trans h1.os, h2.tape.trans h1.tape, h2.output.trans h1.output, Nat.le_trans h1.size h2.size, fun k hk hr => (h2.block k (Nat.lt_of_lt_of_le hk h1.size) hr).trans (h1.block k hk hr)⟩
theorem Turn.of_below {lo hi : Nat} {w W : World} (h : Below w.heap.size w W) : Turn lo hi w W :=
 ⟨h.os, h.tape, h.output, h.size, fun k hk _ => h.block k hk⟩
theorem Turn.setCell {lo hi : Nat} {w W : World} (h : Turn lo hi w W) {a : Addr} (ha : lo ≤ a.block ∧ a.block < hi) (v : Value) : Turn lo hi w (W.setCell a v) :=
 ⟨h.os, h.tape, h.output, by simpa using h.size, fun k hk hr => (heap_setCell_other _ _ _ _ (by omega)).trans (h.block k hk hr)⟩
theorem Turn.drewN {lo hi : Nat} {w W : World} (h : Turn lo hi w W) (n : Nat) : Turn lo hi w (W.drewN n) := ⟨h.os, h.tape, h.output, h.size, h.block⟩
theorem Turn.below {lo hi : Nat} {w W : World} (h : Turn lo hi w W) (hl : lo ≤ w.heap.size) : Below lo w W :=
 ⟨h.os, h.tape, h.output, h.size, fun k hk => h.block k (by omega) (.inl hk)⟩
theorem Turn.cell {lo hi : Nat} {w W : World} (h : Turn lo hi w W) {a : Addr} {v : Value} (hc : w.cell? a = some v) (ha : a.block < lo ∨ hi ≤ a.block) : W.cell? a = some v := by
 have := h.block a.block (block_lt_of_cell hc) ha;simp only [World.cell?, this];exact hc
def hdCells (p : Prg) (L : Lay) (ch : Bool) : Array Value :=
 #[.slice p.funA p.funs.length p.funC, .slice p.obA p.obs.length p.obC, .slice p.vrA p.vrs.length p.vrC, sv (allM p), sv (cleanM p), .slice (some ⟨L.E, 0, none⟩) p.funs.length p.funs.length, .slice (some ⟨L.W, 0, none⟩) p.funs.length p.funs.length, .slice (some ⟨L.N, 0, none⟩) p.funs.length p.funs.length, .slice (some ⟨L.F, 0, none⟩) p.funs.length p.funs.length, .slice (some ⟨L.R, 0, none⟩) p.funs.length L.cR, .slice (some ⟨L.B, 0, none⟩) p.funs.length L.cB, .bool ch]
structure Mem (p : Prg) (L : Lay) (w : World) (s : S) : Prop where
 ok : L.Ok p
 prog : Lies w L.lo p
 hdr : w.heap[L.A]? = some (.cells (hdCells p L s.ch) 88 (0, 0))
 outR : ∀ f, f < p.funs.length → w.cell? ⟨L.R, f, none⟩ = some (.slice (some ⟨L.rb f, 0, none⟩) (p.len f) (p.len f))
 outB : ∀ f, f < p.funs.length → w.cell? ⟨L.B, f, none⟩ = some (.slice (some ⟨L.bb f, 0, none⟩) (p.len f) (p.len f))
 slot : ∀ x : Slot, x.In p → (w.cell? (L.kA x) = some (.bool (s.get x).1) ∧ w.frozen? (L.kA x) = false) ∧ w.cell? (L.tA x) = some (sv (s.get x).2) ∧ w.frozen? (L.tA x) = false
 sized : s.Sized p
 hi : L.lo ≤ L.hi ∧ L.hi ≤ w.heap.size
theorem frozen_block {w W : World} {a : Addr} (h : W.heap[a.block]? = w.heap[a.block]?) : W.frozen? a = w.frozen? a := by simp only [World.frozen?, h]
theorem Mem.below {p : Prg} {L : Lay} {w W : World} {s : S} (h : Mem p L w s) (hb : Below w.heap.size w W) : Mem p L W s := by
 have hk : ∀ a : Addr, a.block < L.hi → W.heap[a.block]? = w.heap[a.block]? := fun a ha => hb.block _ (by have := h.hi.2; omega)
 have hc : ∀ a : Addr, a.block < L.hi → W.cell? a = w.cell? a := fun a ha => hb.cell (by have := h.hi.2; omega)
 refine ⟨h.ok, h.prog.below (hb.mono (by have := h.hi; omega)), (hb.block _ ?_).trans h.hdr, fun f hf => (hc _ ?_).trans (h.outR f hf), fun f hf => (hc _ ?_).trans (h.outB f hf), fun x hx => ⟨⟨?_, ?_⟩, ?_, ?_⟩, h.sized, h.hi.1, Nat.le_trans h.hi.2 hb.size⟩
 ·have := (h.ok.rng L.A (by simp)).2; have := h.hi.2; omega
 ·exact (h.ok.rng L.R (by simp)).2
 ·exact (h.ok.rng L.B (by simp)).2
 ·exact (hc _ (h.ok.kIn hx).2).trans (h.slot x hx).1.1
 ·exact (frozen_block (hk _ (h.ok.kIn hx).2)).trans (h.slot x hx).1.2
 ·exact (hc _ (h.ok.tIn hx).2).trans (h.slot x hx).2.1
 ·exact (frozen_block (hk _ (h.ok.tIn hx).2)).trans (h.slot x hx).2.2
theorem Mem.below' {p : Prg} {L : Lay} {w W : World} {s : S} (h : Mem p L w s) (hb : Below L.hi w W) : Mem p L W s := by
 have hk : ∀ a : Addr, a.block < L.hi → W.heap[a.block]? = w.heap[a.block]? := fun a ha => hb.block _ ha
 have hc : ∀ a : Addr, a.block < L.hi → W.cell? a = w.cell? a := fun a ha => hb.cell ha
 refine ⟨h.ok, h.prog.below (hb.mono h.hi.1), (hb.block _ (h.ok.rng L.A (by simp)).2).trans h.hdr, fun f hf => (hc _ (h.ok.rng L.R (by simp)).2).trans (h.outR f hf), fun f hf => (hc _ (h.ok.rng L.B (by simp)).2).trans (h.outB f hf), fun x hx => ⟨⟨(hc _ (h.ok.kIn hx).2).trans (h.slot x hx).1.1, (frozen_block (hk _ (h.ok.kIn hx).2)).trans (h.slot x hx).1.2⟩, (hc _ (h.ok.tIn hx).2).trans (h.slot x hx).2.1, (frozen_block (hk _ (h.ok.tIn hx).2)).trans (h.slot x hx).2.2⟩, h.sized, h.hi.1, Nat.le_trans h.hi.2 hb.size⟩
theorem Mem.drewN {p : Prg} {L : Lay} {w : World} {s : S} (h : Mem p L w s) (n : Nat) : Mem p L (w.drewN n) s := h.below (below_drews _ _ _)
theorem Mem.flag {p : Prg} {L : Lay} {w : World} {s : S} (h : Mem p L w s) (c : Bool) : Mem p L (w.setCell ⟨L.A, 11, none⟩ (.bool c)) { s with ch := c } := by
 have hA := h.ok.rng L.A (by simp);refine ⟨h.ok, h.prog.below ((Below.refl _ _).setCell (p := ⟨L.A, 11, none⟩) hA.1 _), ?_, fun f hf => ?_, fun f hf => ?_, fun x hx => ?_, ⟨h.sized.ent, h.sized.fin, h.sized.cell, h.sized.row⟩, h.hi.1, by simpa using h.hi.2⟩
 ·rw [heap_setCell_same w L.A 11 _ _ _ h.hdr]
  rfl
 ·rw [World.cell?_setCell_far _ _ _ _ (fun e => h.ok.hdA.1 e.symm)]; exact h.outR f hf
 ·rw [World.cell?_setCell_far _ _ _ _ (fun e => h.ok.hdA.2 e.symm)]; exact h.outB f hf
 ·have hne := h.ok.head hx (b := L.A) (.inl rfl)
  refine ⟨⟨?_, ?_⟩, ?_, ?_⟩
  ·rw [World.cell?_setCell_far _ _ _ _ hne.1]; exact (h.slot x hx).1.1
  ·rw [World.frozen?_setCell]; exact (h.slot x hx).1.2
  ·rw [World.cell?_setCell_far _ _ _ _ hne.2]; exact (h.slot x hx).2.1
  ·rw [World.frozen?_setCell]; exact (h.slot x hx).2.2
theorem Mem.place {p : Prg} {L : Lay} {w : World} {s : S} (h : Mem p L w s) {x : Slot} (hx : x.In p) (k : Bool) (t : BS) : Mem p L ((w.setCell (L.kA x) (.bool k)).setCell (L.tA x) (sv t)) (s.set x (k, t)) := by
 have hk := h.ok.kIn hx;have ht := h.ok.tIn hx;have hA := h.ok.head hx (b := L.A) (.inl rfl);have hR := h.ok.head hx (b := L.R) (.inr (.inl rfl));have hB := h.ok.head hx (b := L.B) (.inr (.inr rfl));have hch : (s.set x (k, t)).ch = s.ch := by cases x <;> rfl
 refine ⟨h.ok, h.prog.below (((Below.refl _ _).setCell hk.1 _).setCell ht.1 _), ?_, fun f hf => ?_, fun f hf => ?_, fun y hy => ?_, h.sized.set x _, h.hi.1, by simpa using h.hi.2⟩
 ·rw [heap_setCell_other _ _ _ _ hA.2, heap_setCell_other _ _ _ _ hA.1, hch]; exact h.hdr
 ·rw [World.cell?_setCell_far _ _ _ _ (fun e => hR.2 e.symm), World.cell?_setCell_far _ _ _ _ (fun e => hR.1 e.symm)]; exact h.outR f hf
 ·rw [World.cell?_setCell_far _ _ _ _ (fun e => hB.2 e.symm), World.cell?_setCell_far _ _ _ _ (fun e => hB.1 e.symm)]; exact h.outB f hf
 ·rw [S.get_set h.sized hx]
  obtain ⟨⟨y1, y2⟩, y3, y4⟩ := h.slot y hy;obtain ⟨⟨x1, x2⟩, x3, x4⟩ := h.slot x hx;have kt := h.ok.kt hx hy;have kt2 := h.ok.kt hy hx;refine ⟨⟨?_, ?_⟩, ?_, ?_⟩
  ·rw [World.cell?_setCell_far _ _ _ _ (fun e => kt2 e.symm)]
   by_cases e : y = x
   ·subst e; rw [if_pos rfl, World.cell?_setCell_same _ _ _ y1]
   ·rw [if_neg e, World.cell?_setCell_other _ _ _ _ (fun z => e (h.ok.kk hx hy z).symm)]; exact y1
  ·rw [World.frozen?_setCell, World.frozen?_setCell]; exact y2
  ·by_cases e : y = x
   ·subst e
    rw [if_pos rfl, World.cell?_setCell_same _ _ _ (u := sv (s.get y).2)];rw [World.cell?_setCell_far _ _ _ _ kt]; exact y3
   ·rw [if_neg e, World.cell?_setCell_other _ _ _ _ (fun z => e (h.ok.tt hx hy z).symm), World.cell?_setCell_far _ _ _ _ kt]; exact y3
  ·rw [World.frozen?_setCell, World.frozen?_setCell]; exact y4
def Left (p : Prg) (L : Lay) (w : World) (s : S) (v : Value) : Ending → World → Prop := fun e W => e = .returned v ∧ Mem p L W s ∧ Turn L.lo L.hi w W
theorem Mem.hd {p : Prg} {L : Lay} {w : World} {s : S} (h : Mem p L w s) {j : Nat} {v : Value} (hv : (hdCells p L s.ch)[j]? = some v) : w.cell? ⟨L.A, j, none⟩ = some v := by
 have := h.hdr;simp only [World.cell?, this];simpa using hv
theorem Mem.c0 {p : Prg} {L : Lay} {w : World} {s : S} (h : Mem p L w s) : w.cell? ⟨L.A, 0, none⟩ = some (.slice p.funA p.funs.length p.funC) := h.hd rfl
theorem Mem.c1 {p : Prg} {L : Lay} {w : World} {s : S} (h : Mem p L w s) : w.cell? ⟨L.A, 1, none⟩ = some (.slice p.obA p.obs.length p.obC) := h.hd rfl
theorem Mem.c2 {p : Prg} {L : Lay} {w : World} {s : S} (h : Mem p L w s) : w.cell? ⟨L.A, 2, none⟩ = some (.slice p.vrA p.vrs.length p.vrC) := h.hd rfl
theorem Mem.c3 {p : Prg} {L : Lay} {w : World} {s : S} (h : Mem p L w s) : w.cell? ⟨L.A, 3, none⟩ = some (sv (allM p)) := h.hd rfl
theorem Mem.c4 {p : Prg} {L : Lay} {w : World} {s : S} (h : Mem p L w s) : w.cell? ⟨L.A, 4, none⟩ = some (sv (cleanM p)) := h.hd rfl
theorem Mem.c5 {p : Prg} {L : Lay} {w : World} {s : S} (h : Mem p L w s) : w.cell? ⟨L.A, 5, none⟩ = some (.slice (some ⟨L.E, 0, none⟩) p.funs.length p.funs.length) := h.hd rfl
theorem Mem.c6 {p : Prg} {L : Lay} {w : World} {s : S} (h : Mem p L w s) : w.cell? ⟨L.A, 6, none⟩ = some (.slice (some ⟨L.W, 0, none⟩) p.funs.length p.funs.length) := h.hd rfl
theorem Mem.c7 {p : Prg} {L : Lay} {w : World} {s : S} (h : Mem p L w s) : w.cell? ⟨L.A, 7, none⟩ = some (.slice (some ⟨L.N, 0, none⟩) p.funs.length p.funs.length) := h.hd rfl
theorem Mem.c8 {p : Prg} {L : Lay} {w : World} {s : S} (h : Mem p L w s) : w.cell? ⟨L.A, 8, none⟩ = some (.slice (some ⟨L.F, 0, none⟩) p.funs.length p.funs.length) := h.hd rfl
theorem Mem.c9 {p : Prg} {L : Lay} {w : World} {s : S} (h : Mem p L w s) : w.cell? ⟨L.A, 9, none⟩ = some (.slice (some ⟨L.R, 0, none⟩) p.funs.length L.cR) := h.hd rfl
theorem Mem.c10 {p : Prg} {L : Lay} {w : World} {s : S} (h : Mem p L w s) : w.cell? ⟨L.A, 10, none⟩ = some (.slice (some ⟨L.B, 0, none⟩) p.funs.length L.cB) := h.hd rfl
theorem Mem.c11 {p : Prg} {L : Lay} {w : World} {s : S} (h : Mem p L w s) : w.cell? ⟨L.A, 11, none⟩ = some (.bool s.ch) := h.hd rfl
theorem Mem.hdF {p : Prg} {L : Lay} {w : World} {s : S} (h : Mem p L w s) (j : Nat) : w.frozen? ⟨L.A, j, none⟩ = false := by
 have := h.hdr;simp [World.frozen?, this]
theorem Mem.grow {p : Prg} {L : Lay} {w W : World} {s : S} (h : Mem p L w s) {x : Slot} (hx : x.In p) {l : BS} (hg : Grew L.A (L.kA x).block (L.kA x).off (L.tA x).block (L.tA x).off (s.get x).1 (s.get x).2 l w W) : Mem p L W (s.grow x l) ∧ Turn L.lo L.hi w W := by
 obtain ⟨q, rfl⟩ := hg;have hk := h.ok.kIn hx;have ht := h.ok.tIn hx;have hA := h.ok.rng L.A (by simp);have ek : (⟨(L.kA x).block, (L.kA x).off, none⟩ : Addr) = L.kA x := by cases x <;> rfl
 have et : (⟨(L.tA x).block, (L.tA x).off, none⟩ : Addr) = L.tA x := by cases x <;> rfl
 rw [ek, et]
 cases hc : (!(s.get x).1 || ((s.get x).2 ||| l) != (s.get x).2) with
 | true =>
  rw [if_pos rfl];refine ⟨?_, (((Turn.refl _ _ _).drewN q).setCell hA _ |>.setCell hk _).setCell ht _⟩;have h1 := ((h.drewN q).flag true).place hx true ((s.get x).2 ||| l)
  have e : s.grow x l = ({ s with ch := true } : S).set x (true, (s.get x).2 ||| l) := by
   unfold S.grow;rw [Bool.or_assoc, hc, Bool.or_true];cases x <;> rfl
  rw [e]; exact h1
 | false =>
  rw [if_neg (by decide)];refine ⟨?_, (((Turn.refl _ _ _).drewN q).setCell hk _).setCell ht _⟩;have h1 := (h.drewN q).place hx true ((s.get x).2 ||| l)
  have e : s.grow x l = s.set x (true, (s.get x).2 ||| l) := by
   unfold S.grow;rw [Bool.or_assoc, hc, Bool.or_false];cases x <;> rfl
  rw [e]; exact h1
theorem grow_any (p : Prg) (L : Lay) (w : World) (s : S) (h : Mem p L w s) (x : Slot) (hx : x.In p) (l : BS) :
  Calls Tryz.prog 84 #[.pointer (some ⟨L.A, 0, none⟩), .pointer (some (L.kA x)), .pointer (some (L.tA x)), sv l] w (Left p L w (s.grow x l) (.tuple #[])) := by
 obtain ⟨⟨x1, x2⟩, x3, x4⟩ := h.slot x hx;have ek : L.kA x = ⟨(L.kA x).block, (L.kA x).off, none⟩ := by cases x <;> rfl
 have et : L.tA x = ⟨(L.tA x).block, (L.tA x).off, none⟩ := by cases x <;> rfl
 have hh := h.ok.head hx (b := L.A) (.inl rfl);have hg := grow_cells w L.A (L.kA x).block (L.kA x).off (L.tA x).block (L.tA x).off (s.get x).1 s.ch (s.get x).2 l (by rw [← ek]; exact x1) (by rw [← ek]; exact x2) (by rw [← et]; exact x3) (by rw [← et]; exact x4) (h.hd rfl) (h.hdF 11) hh.1 hh.2 (h.ok.kt hx hx);rw [← ek, ← et] at hg;refine hg.mono ?_;rintro e W ⟨rfl, hgr⟩;exact ⟨rfl, h.grow hx hgr⟩
end
section
open Go.RowKit
theorem reach_any (p : Prg) (L : Lay) (w : World) (s : S) (h : Mem p L w s) (f k : Nat) (hx : (Slot.at_ f k).In p) (l : BS) :
  Calls Tryz.prog 85 #[.pointer (some ⟨L.A, 0, none⟩), .int .i64 f, .int .i64 k, sv l] w (Left p L w (s.grow (.at_ f k) l) (.tuple #[])) := by
 have HG := hid (fun (W : World) (hb : Below w.heap.size w W) => grow_any p L W s (h.below hb) (.at_ f k) hx l);have c9 := h.c9;have c10 := h.c10;have cR := h.outR f hx.1;have cB := h.outB f hx.1;have f0 := zi f;have f1 : (f : Int) < (p.funs.length : Int) := by have := hx.1; omega
 have k0 := zi k;have k1 : (k : Int) < (p.len f : Int) := by have := hx.2; omega
 clear h hx;unfold sv at HG ⊢;generalize p.len f = M at *;generalize p.funs.length = N at *;go_enter Tryz.func85, Tryz.ntmps85;go_wp2_with fail;go_still_tail 20, (by kernel_rfl)
 change wpList _ _ _ _ _ w.drew;have hb := below_drews w.heap.size w 1;change Below w.heap.size w w.drew at hb;generalize w.drew = W1 at hb ⊢;go_wp2_with fail;refine (HG.out _ hb).mono ?_;rintro e W2 ⟨rfl, hm, ht⟩;go_wp2_with fail;go_end0;exact ⟨rfl, hm, (Turn.of_below hb).trans ht⟩
theorem enter_any (p : Prg) (L : Lay) (w : World) (s : S) (h : Mem p L w s) (f : Nat) (hf : f < p.funs.length) (l : BS) :
  Calls Tryz.prog 67 #[.pointer (some ⟨L.A, 0, none⟩), .int .i64 f, sv l] w (Left p L w (s.enter p f l) (.tuple #[])) := by
 have HG := hid (fun (W : World) (hb : Below w.heap.size w W) => grow_any p L W s (h.below hb) (.ent f) hf l)
 have HR : Hid (∀ (W : World) (_ : Mem p L W (s.grow (.ent f) l)) (_ : 0 < p.len f) (l2 : BS), Calls Tryz.prog 85 #[.pointer (some ⟨L.A, 0, none⟩), .int .i64 f, .int .i64 0, .int .u32 (l2.toNat : Int)] W (Left p L W ((s.grow (.ent f) l).grow (.at_ f 0) l2) (.tuple #[]))) :=
  hid (fun W hm h0 l2 => reach_any p L W _ hm f 0 ⟨hf, h0⟩ l2)
 have c5 := h.c5;have c6 := h.c6;have f0 := zi f;have f1 : (f : Int) < (p.funs.length : Int) := by omega
 clear h;unfold sv at HG ⊢;go_enter Tryz.func67, Tryz.ntmps67;go_wp2_with fail;go_still_tail 14, (by kernel_rfl)
 change wpList _ _ _ _ _ w.drew;have hb := below_drews w.heap.size w 1;change Below w.heap.size w w.drew at hb;generalize w.drew = W1 at hb ⊢;go_wp2_with fail;refine (HG.out _ hb).mono ?_;rintro e W2 ⟨rfl, hm, ht⟩;have ht2 := (Turn.of_below (lo := L.lo) (hi := L.hi) hb).trans ht;have d0 := hm.c0;have d6 := hm.c6;obtain ⟨b, off, hA, hbl, -, -, -, -, -, e5⟩ := hm.prog.fn hf;have hs := (hm.slot (.ent f) hf).2.1;have HM2 := hid hm;rw [hA] at d0;have hcn : p.funs[f].code.length = p.len f := by simp [Prg.len, Prg.fn, hf]
 rw [hcn] at e5;unfold sv at hs;unfold Lay.tA at hs;clear hm ht c5 c6 hA;by_cases h0 : p.len f = 0
 ·have g1 := Df (show ¬ (0 < p.len f) by omega)
  have g2 := Df (show ¬ (0 : Int) < p.len f by omega);have H0 := hid h0;clear h0;go_wp2_with fail;go_end0;refine ⟨rfl, ?_, ht2⟩;unfold S.enter;rw [if_pos H0.out];exact HM2.out
 ·have g1 := Dt (show 0 < p.len f by omega)
  have g2 := Dt (show (0 : Int) < p.len f by omega);have H0 := hid h0;clear h0;go_wp2_with fail;refine (HR.out _ HM2.out (by have := H0.out; omega) _).mono ?_;rintro e W3 ⟨rfl, hm, ht⟩;go_wp2_with fail;go_end0;refine ⟨rfl, ?_, ht2.trans ht⟩;unfold S.enter;rw [if_neg H0.out];exact hm
end
section
open Go.RowKit Go.Shelf
theorem check_any (p : Prg) (hfit : Fits p) (w : World) (h : Lies w w.heap.size p) : Calls Tryz.prog 65 #[p.val] w (RetE (prgOk p) w) := by
 have hn1 := h.funN;have hn2 := h.obN;have hn3 := h.vrN;unfold maxLen at hn1 hn2 hn3;obtain ⟨V, hV⟩ : ∃ V, V = prgOk p := ⟨_, rfl⟩
 rw [← hV];have HV : Hid (V ↔ (p.funs.length ≠ 0 ∧ p.funs.length ≤ 32 ∧ p.obs.length ≤ 16 ∧ p.vrs.length ≤ 16) ∧ (∀ (k : Nat) (hk : k < p.obs.length), obOk p k p.obs[k]) ∧ (∀ (k : Nat) (hk : k < p.vrs.length), vrOk p k p.vrs[k]) ∧ ∀ (k : Nat) (hk : k < p.funs.length), fnOk p k p.funs[k]) := hid (iff_of_eq hV);clear hV;have hT := one_new w #[.slice p.funA p.funs.length p.funC, .slice p.obA p.obs.length p.obC, .slice p.vrA p.vrs.length p.vrC] 26;have hc1 := fun k hk W hb => chkOb_any p k hk W (h.next hb)
 have hc2 := fun k hk W hb => chkVr_any p k hk W (h.next hb)
 have hc3 := fun k hk W hb => chkFn_any p k hk hfit W (h.next hb)
 unfold Prg.val at hc1 hc2 hc3 ⊢;have HC1 := hid hc1;have HC2 := hid hc2;have HC3 := hid hc3;clear hc1 hc2 hc3 h hfit;by_cases l1 : p.funs.length = 0
 ·have e1 : ((p.funs.length : Int) == 0) = true := by rw [l1]; rfl
  have e2 : (p.funs.length == 0) = true := by rw [l1]; rfl
  have HNO := hid (show ¬ V from fun v => (HV.out.1 v).1.1 l1);clear l1;go_enter Tryz.func65, Tryz.ntmps65;go_wp2_with fail;go_ret;exact retE_no (by decide) HNO.out hT.below
 have e1 : ((p.funs.length : Int) == 0) = false := beq_eq_false_iff_ne.2 (by omega);have e2 : (p.funs.length == 0) = false := beq_eq_false_iff_ne.2 (by omega);by_cases l2 : p.funs.length ≤ 32;rotate_left
 ·have g1 := Dt (show (32 : Int) < p.funs.length by omega)
  have g2 := Dt (show 32 < p.funs.length by omega);have HNO := hid (show ¬ V from fun v => l2 (HV.out.1 v).1.2.1);clear l2;go_enter Tryz.func65, Tryz.ntmps65;go_wp2_with fail;go_ret;exact retE_no (by decide) HNO.out hT.below
 have l2a := Df (show ¬ (32 : Int) < p.funs.length by omega);have l2b := Df (show ¬ (32 < p.funs.length) by omega);by_cases l3 : p.obs.length ≤ 16;rotate_left
 ·have g1 := Dt (show (16 : Int) < p.obs.length by omega)
  have g2 := Dt (show 16 < p.obs.length by omega);have HNO := hid (show ¬ V from fun v => l3 (HV.out.1 v).1.2.2.1);clear l3;go_enter Tryz.func65, Tryz.ntmps65;go_wp2_with fail;go_ret;exact retE_no (by decide) HNO.out hT.below
 have l3a := Df (show ¬ (16 : Int) < p.obs.length by omega);have l3b := Df (show ¬ (16 < p.obs.length) by omega);by_cases l4 : p.vrs.length ≤ 16;rotate_left
 ·have g1 := Dt (show (16 : Int) < p.vrs.length by omega)
  have g2 := Dt (show 16 < p.vrs.length by omega);have HNO := hid (show ¬ V from fun v => l4 (HV.out.1 v).1.2.2.2);clear l4;go_enter Tryz.func65, Tryz.ntmps65;go_wp2_with fail;go_ret;exact retE_no (by decide) HNO.out hT.below
 have l4a := Df (show ¬ (16 : Int) < p.vrs.length by omega);have l4b := Df (show ¬ (16 < p.vrs.length) by omega);have HL := hid (And.intro l1 (And.intro l2 (And.intro l3 l4)));clear l1 l2 l3 l4;go_enter Tryz.func65, Tryz.ntmps65;go_upto_region 1 with fail;generalize World.alloc w _ = W1 at hT ⊢;obtain ⟨xa0, xa1, xa2⟩ := bx3 hT.fst;go_wp2_with fail;go_loopw [32] (fun i wr => ∃ j : Nat, i = .int .i64 j ∧ j ≤ p.obs.length ∧ Hid (∀ (k : Nat) (hk : k < p.obs.length), k < j → obOk p k p.obs[k]) ∧ One w wr [.slice p.funA p.funs.length p.funC, .slice p.obA p.obs.length p.obC, .slice p.vrA p.vrs.length p.vrC]) (fun i _ => p.obs.length - (intOf i).toNat)
 case atStart => exact ⟨0, rfl, by omega, hid (fun k hk z => by omega), hT⟩
 case round =>
  obtain ⟨j, rfl, hj, HSa, hTa⟩ := hrel;obtain ⟨xa0, xa1, xa2⟩ := bx3 hTa.fst;have hj0 := zi j;by_cases hlt : j < p.obs.length
  ·have hwr1 := Wi j (by omega)
   have hd1 := Dt (show (j : Int) < p.obs.length by omega);have hd2 := Dt hlt
   have HNX : Hid (obOk p j p.obs[j] → ∀ (k : Nat) (hk : k < p.obs.length), k < j + 1 → obOk p k p.obs[k]) := hid (fun hh k hk z => by
    by_cases e : k = j
    ·subst e; exact hh
    ·exact HSa.out k hk (by omega))
   have HBD : Hid (¬ obOk p j p.obs[j] → ¬ V) := hid (fun hh v => hh ((HV.out.1 v).2.1 j hlt));have HCJ := hid (HC1.out j hlt);generalize obOk p j p.obs[j] = PX at HNX HBD HCJ;go_wp2_with fail;refine (HCJ.out _ hTa.below).mono ?_;rintro e w5 ⟨nn, rfl, hnn, hb5⟩;have HNN := hid hnn;have hT5 := hTa.next hb5;clear hnn;by_cases hn0 : nn = 0
   ·subst hn0
    have HS2 := hid (HNX.out (HNN.out.1 rfl));clear HNN HNX HBD;go_wp2_with fail;exact ⟨⟨j + 1, by go_num, by omega, HS2, hT5⟩, by simp [intOf]; omega⟩
   ·have en : (nn != 0) = true := by simpa using hn0
    have HNO := hid (HBD.out (fun hh => hn0 (HNN.out.2 hh)));have HN0 := hid hn0;clear hn0 HNN HNX HBD;go_wp2_with fail;go_ret;exact retE_no HN0.out HNO.out hT5.below
  ·have hd1 := Df (show ¬ (j : Int) < p.obs.length by omega)
   have hd2 := Df hlt;have HALLa : Hid (∀ (k : Nat) (hk : k < p.obs.length), obOk p k p.obs[k]) := hid (fun k hk => HSa.out k hk (by omega));clear hlt hj HSa;go_wp2_with fail;go_loopw [45] (fun i wr => ∃ j : Nat, i = .int .i64 j ∧ j ≤ p.vrs.length ∧ Hid (∀ (k : Nat) (hk : k < p.vrs.length), k < j → vrOk p k p.vrs[k]) ∧ One w wr [.slice p.funA p.funs.length p.funC, .slice p.obA p.obs.length p.obC, .slice p.vrA p.vrs.length p.vrC]) (fun i _ => p.vrs.length - (intOf i).toNat)
   case atStart => exact ⟨0, rfl, by omega, hid (fun k hk z => by omega), hTa⟩
   case round =>
    obtain ⟨j, rfl, hj, HSb, hTb⟩ := hrel;obtain ⟨xb0, xb1, xb2⟩ := bx3 hTb.fst;have hj0 := zi j;by_cases hlt : j < p.vrs.length
    ·have hwr1 := Wi j (by omega)
     have hd1 := Dt (show (j : Int) < p.vrs.length by omega);have hd2 := Dt hlt
     have HNX : Hid (vrOk p j p.vrs[j] → ∀ (k : Nat) (hk : k < p.vrs.length), k < j + 1 → vrOk p k p.vrs[k]) := hid (fun hh k hk z => by
      by_cases e : k = j
      ·subst e; exact hh
      ·exact HSb.out k hk (by omega))
     have HBD : Hid (¬ vrOk p j p.vrs[j] → ¬ V) := hid (fun hh v => hh ((HV.out.1 v).2.2.1 j hlt));have HCJ := hid (HC2.out j hlt);generalize vrOk p j p.vrs[j] = PX at HNX HBD HCJ;go_wp2_with fail;refine (HCJ.out _ hTb.below).mono ?_;rintro e w5 ⟨nn, rfl, hnn, hb5⟩;have HNN := hid hnn;have hT5 := hTb.next hb5;clear hnn;by_cases hn0 : nn = 0
     ·subst hn0
      have HS2 := hid (HNX.out (HNN.out.1 rfl));clear HNN HNX HBD;go_wp2_with fail;exact ⟨⟨j + 1, by go_num, by omega, HS2, hT5⟩, by simp [intOf]; omega⟩
     ·have en : (nn != 0) = true := by simpa using hn0
      have HNO := hid (HBD.out (fun hh => hn0 (HNN.out.2 hh)));have HN0 := hid hn0;clear hn0 HNN HNX HBD;go_wp2_with fail;go_ret;exact retE_no HN0.out HNO.out hT5.below
    ·have hd1 := Df (show ¬ (j : Int) < p.vrs.length by omega)
     have hd2 := Df hlt;have HALLb : Hid (∀ (k : Nat) (hk : k < p.vrs.length), vrOk p k p.vrs[k]) := hid (fun k hk => HSb.out k hk (by omega));clear hlt hj HSb;go_wp2_with fail;go_loopw [58] (fun i wr => ∃ j : Nat, i = .int .i64 j ∧ j ≤ p.funs.length ∧ Hid (∀ (k : Nat) (hk : k < p.funs.length), k < j → fnOk p k p.funs[k]) ∧ One w wr [.slice p.funA p.funs.length p.funC, .slice p.obA p.obs.length p.obC, .slice p.vrA p.vrs.length p.vrC]) (fun i _ => p.funs.length - (intOf i).toNat)
     case atStart => exact ⟨0, rfl, by omega, hid (fun k hk z => by omega), hTb⟩
     case round =>
      obtain ⟨j, rfl, hj, HSc, hTc⟩ := hrel;obtain ⟨xc0, xc1, xc2⟩ := bx3 hTc.fst;have hj0 := zi j;by_cases hlt : j < p.funs.length
      ·have hwr1 := Wi j (by omega)
       have hd1 := Dt (show (j : Int) < p.funs.length by omega);have hd2 := Dt hlt
       have HNX : Hid (fnOk p j p.funs[j] → ∀ (k : Nat) (hk : k < p.funs.length), k < j + 1 → fnOk p k p.funs[k]) := hid (fun hh k hk z => by
        by_cases e : k = j
        ·subst e; exact hh
        ·exact HSc.out k hk (by omega))
       have HBD : Hid (¬ fnOk p j p.funs[j] → ¬ V) := hid (fun hh v => hh ((HV.out.1 v).2.2.2 j hlt));have HCJ := hid (HC3.out j hlt);generalize fnOk p j p.funs[j] = PX at HNX HBD HCJ;go_wp2_with fail;refine (HCJ.out _ hTc.below).mono ?_;rintro e w5 ⟨nn, rfl, hnn, hb5⟩;have HNN := hid hnn;have hT5 := hTc.next hb5;clear hnn;by_cases hn0 : nn = 0
       ·subst hn0
        have HS2 := hid (HNX.out (HNN.out.1 rfl));clear HNN HNX HBD;go_wp2_with fail;exact ⟨⟨j + 1, by go_num, by omega, HS2, hT5⟩, by simp [intOf]; omega⟩
       ·have en : (nn != 0) = true := by simpa using hn0
        have HNO := hid (HBD.out (fun hh => hn0 (HNN.out.2 hh)));have HN0 := hid hn0;clear hn0 HNN HNX HBD;go_wp2_with fail;go_ret;exact retE_no HN0.out HNO.out hT5.below
      ·have hd1 := Df (show ¬ (j : Int) < p.funs.length by omega)
       have hd2 := Df hlt;have HALLc : Hid (∀ (k : Nat) (hk : k < p.funs.length), fnOk p k p.funs[k]) := hid (fun k hk => HSc.out k hk (by omega));clear hlt hj HSc;go_wp2_with fail;go_ret;exact retE_ok (HV.out.2 ⟨HL.out, HALLa.out, HALLb.out, HALLc.out⟩) hTc.below
theorem check_ok (p : Prg) (hfit : Fits p) (hv : prgOk p) (w : World) (h : Lies w w.heap.size p) : Calls Tryz.prog 65 #[p.val] w (Ret (.int .i64 0) w) := (check_any p hfit w h).mono fun _ _ hh => hh.ok hv
end
section
open Go.RowKit Go.Shelf
def Idx (x : Int) (n : Nat) : Prop := 0 ≤ x ∧ x < (n : Int)
theorem idx_of {x : Int} {n : Nat} (h : inR2 x 0 ((n : Int) - 1) = true) : Idx x n := by rw [inR2_iff] at h; exact ⟨h.1, by omega⟩
structure InsW (p : Prg) (f : Fn) (i : Ins) : Prop where
 lock : i.op = 50 ∨ i.op = 52 → Idx i.a p.obs.length ∧ ∃ o, p.obs[i.a.toNat]? = some o ∧ o.kind = 1
 rw : i.op = 53 ∨ i.op = 54 ∨ i.op = 55 ∨ i.op = 56 → Idx i.a p.obs.length ∧ ∃ o, p.obs[i.a.toNat]? = some o ∧ o.kind = 2
 try_ : i.op = 51 → Idx i.b p.obs.length ∧ ∃ o, p.obs[i.b.toNat]? = some o ∧ o.kind = 1
 wait : i.op = 57 → Idx i.a p.obs.length ∧ Idx (p.obs.getD i.a.toNat default).other p.obs.length ∧ ∃ o, p.obs[(p.obs.getD i.a.toNat default).other.toNat]? = some o ∧ o.kind = 1
 call : i.op = 15 ∨ i.op = 34 ∨ i.op = 17 → Idx i.b p.funs.length
 jump : i.op = 13 → Idx i.a f.code.length
 cond : i.op = 14 → Idx i.b f.code.length
 open_ : i.op = 35 → Idx i.c f.code.length
structure Wf (p : Prg) : Prop where
 funs : 0 < p.funs.length ∧ p.funs.length ≤ 32
 obs : p.obs.length ≤ 16
 len : ∀ f, f < p.funs.length → p.len f ≤ 200
 ins : ∀ f k, f < p.funs.length → k < p.len f → InsW p (p.fn f) (p.ins f k)
theorem ins_parts {p : Prg} {f : Fn} {i : Ins} (h : insOk p f i) {op w0 k0 w1 k1 w2 k2 g : Int} (ho : i.op = op) (hs : shapeF op = some [w0, k0, w1, k1, w2, k2, g]) : opOk p f w0.toNat k0 i.a ∧ opOk p f w1.toNat k1 i.b ∧ opOk p f w2.toNat k2 i.c := by
 obtain ⟨a0, b0, a1, b1, a2, b2, c, e, _, h0, h1, h2, _⟩ := h;rw [ho, hs] at e;injection e with e;injection e with e0 e; injection e with e1 e; injection e with e2 e; injection e with e3 e; injection e with e4 e; injection e with e5 e; injection e with e6 e;subst e0; subst e1; subst e2; subst e3; subst e4; subst e5; subst e6;exact ⟨h0, h1, h2⟩
theorem insW_of {p : Prg} {f : Fn} {i : Ins} (h : insOk p f i) (hob : ∀ (k : Nat) (hk : k < p.obs.length), obOk p k p.obs[k]) : InsW p f i := by
 refine ⟨?_, ?_, ?_, ?_, ?_, ?_, ?_, ?_⟩
 ·rintro (ho | ho)
  ·have := (ins_parts h ho (w0 := 12) (k0 := 1) (w1 := 0) (k1 := 0) (w2 := 0) (k2 := 0) (g := 0) (by decide)).1; exact ⟨idx_of this.1, this.2⟩
  ·have := (ins_parts h ho (w0 := 12) (k0 := 1) (w1 := 0) (k1 := 0) (w2 := 0) (k2 := 0) (g := 0) (by decide)).1; exact ⟨idx_of this.1, this.2⟩
 ·rintro (ho | ho | ho | ho)
  ·have := (ins_parts h ho (w0 := 12) (k0 := 2) (w1 := 0) (k1 := 0) (w2 := 0) (k2 := 0) (g := 0) (by decide)).1; exact ⟨idx_of this.1, this.2⟩
  ·have := (ins_parts h ho (w0 := 12) (k0 := 2) (w1 := 0) (k1 := 0) (w2 := 0) (k2 := 0) (g := 0) (by decide)).1; exact ⟨idx_of this.1, this.2⟩
  ·have := (ins_parts h ho (w0 := 12) (k0 := 2) (w1 := 0) (k1 := 0) (w2 := 0) (k2 := 0) (g := 0) (by decide)).1; exact ⟨idx_of this.1, this.2⟩
  ·have := (ins_parts h ho (w0 := 12) (k0 := 2) (w1 := 0) (k1 := 0) (w2 := 0) (k2 := 0) (g := 0) (by decide)).1; exact ⟨idx_of this.1, this.2⟩
 ·intro ho
  have := (ins_parts h ho (w0 := 4) (k0 := 0) (w1 := 12) (k1 := 1) (w2 := 0) (k2 := 0) (g := 0) (by decide)).2.1; exact ⟨idx_of this.1, this.2⟩
 ·intro ho
  have h1 := (ins_parts h ho (w0 := 12) (k0 := 3) (w1 := 0) (k1 := 0) (w2 := 0) (k2 := 0) (g := 0) (by decide)).1;have hi := idx_of h1.1;obtain ⟨o, e, hk⟩ := h1.2;have hl : i.a.toNat < p.obs.length := by have := hi.2; have := hi.1; omega
  have e2 : p.obs[i.a.toNat] = o := by rw [List.getElem?_eq_getElem hl] at e; injection e
  have hb := hob _ hl;rw [e2] at hb;have e3 : p.obs.getD i.a.toNat default = o := by rw [List.getD_eq_getElem?_getD, e]; rfl
  rw [e3];obtain ⟨_, _, _, hot, hcond, _⟩ := hb;rw [hk] at hot;obtain ⟨q, hq, hqk⟩ := hcond hk
  have h0 : 0 ≤ o.other := by
   have e4 : (othersF p.obs.length 3).1 = 0 := rfl;rw [inR2_iff, e4] at hot; exact hot.1
  refine ⟨hi, ⟨h0, ?_⟩, q, hq, hqk⟩;have := (List.getElem?_eq_some_iff.1 hq).1;omega
 ·rintro (ho | ho | ho)
  ·have := (ins_parts h ho (w0 := 4) (k0 := 0) (w1 := 8) (k1 := 0) (w2 := 0) (k2 := 0) (g := 1) (by decide)).2.1; exact idx_of this.1
  ·have := (ins_parts h ho (w0 := 4) (k0 := 0) (w1 := 8) (k1 := 0) (w2 := 0) (k2 := 0) (g := 1) (by decide)).2.1; exact idx_of this.1
  ·have := (ins_parts h ho (w0 := 0) (k0 := 0) (w1 := 9) (k1 := 0) (w2 := 0) (k2 := 0) (g := 1) (by decide)).2.1; exact idx_of this.1
 ·intro ho
  have := (ins_parts h ho (w0 := 6) (k0 := 0) (w1 := 0) (k1 := 0) (w2 := 0) (k2 := 0) (g := 0) (by decide)).1; exact idx_of this
 ·intro ho
  have := (ins_parts h ho (w0 := 3) (k0 := 0) (w1 := 6) (k1 := 0) (w2 := 0) (k2 := 0) (g := 0) (by decide)).2.1; exact idx_of this
 ·intro ho
  have := (ins_parts h ho (w0 := 5) (k0 := 0) (w1 := 5) (k1 := 0) (w2 := 7) (k2 := 0) (g := 0) (by decide)).2.2; exact idx_of this.1
theorem fn_eq {p : Prg} {f : Nat} (hf : f < p.funs.length) : p.fn f = p.funs[f] := by simp [Prg.fn, hf]
theorem ins_eq {p : Prg} {f k : Nat} (hf : f < p.funs.length) (hk : k < p.len f) : ∃ h : k < (p.funs[f]).code.length, p.ins f k = (p.funs[f]).code[k] := by
 have hk2 : k < (p.funs[f]).code.length := by have := hk; rw [Prg.len, fn_eq hf] at this; exact this
 exact ⟨hk2, by simp [Prg.ins, Fn.ins, fn_eq hf, hk2]⟩
theorem wf_of {p : Prg} (h : prgOk p) : Wf p := by
 obtain ⟨⟨l1, l2, l3, l4⟩, v1, v2, v3⟩ := h;refine ⟨⟨by omega, l2⟩, l3, fun f hf => ?_, fun f k hf hk => ?_⟩
 ·rw [Prg.len, fn_eq hf]; exact (v3 f hf).2.2.2.2.2.2.1
 ·obtain ⟨hk2, e⟩ := ins_eq hf hk
  rw [e, fn_eq hf];exact insW_of ((v3 f hf).2.2.2.2.2.2.2.2 _ (List.getElem_mem _)) v1
theorem acq_idx {p : Prg} {f : Fn} {i : Ins} (h : InsW p f i) {l : Int} (e : acq p i = some l) : Idx l p.obs.length ∧ ∃ o, p.obs[l.toNat]? = some o ∧ (o.kind = 1 ∨ o.kind = 2) := by
 unfold acq at e;split at e
 ·rename_i ho
  injection e with e; subst e;rcases ho with ho | ho | ho
  ·obtain ⟨h1, o, h2, h3⟩ := h.lock (.inl ho); exact ⟨h1, o, h2, .inl h3⟩
  ·obtain ⟨h1, o, h2, h3⟩ := h.rw (.inl ho); exact ⟨h1, o, h2, .inr h3⟩
  ·obtain ⟨h1, o, h2, h3⟩ := h.rw (.inr (.inr (.inl ho))); exact ⟨h1, o, h2, .inr h3⟩
 ·split at e
  ·rename_i ho
   injection e with e; subst e;obtain ⟨h1, o, h2, h3⟩ := h.try_ ho; exact ⟨h1, o, h2, .inl h3⟩
  ·split at e
   ·rename_i ho
    injection e with e; subst e;obtain ⟨_, h1, o, h2, h3⟩ := h.wait ho; exact ⟨h1, o, h2, .inl h3⟩
   ·cases e
def acqVal (p : Prg) (i : Ins) : Value := match acq p i with | some l => .tuple #[.int .i64 l, .bool true] | none => .tuple #[.int .i64 0, .bool false]
theorem acq_any (p : Prg) (i : Ins) (hw : i.op = 57 → Idx i.a p.obs.length) (w : World) (h : Lies w w.heap.size p) : Calls Tryz.prog 46 #[p.val, i.val] w (Ret (acqVal p i) w) := by
 obtain ⟨op, a, b, c, args, argA, argC⟩ := i;dsimp only at hw;have hT := two_new w #[.slice p.funA p.funs.length p.funC, .slice p.obA p.obs.length p.obC, .slice p.vrA p.vrs.length p.vrC] #[.int .i64 op, .int .i64 a, .int .i64 b, .int .i64 c, .slice argA args.length argC] 26 63;unfold Prg.val Ins.val Ins.cells;dsimp only;generalize args.length = N at hT ⊢;go_enter Tryz.func46, Tryz.ntmps46;go_upto_region 1 with fail;generalize World.alloc (World.alloc w _) _ = W1 at hT ⊢;obtain ⟨x0, x1, x2⟩ := bx3 hT.fst;obtain ⟨z0, z1, z2, z3, z4⟩ := bx5 hT.snd;have HT := hid hT;clear hT;by_cases h50 : op = 50
 ·subst h50
  go_wp2_with fail;go_ret2;exact ⟨rfl, HT.out.below⟩
 ·by_cases h53 : op = 53
  ·subst h53
   go_wp2_with fail;go_ret2;exact ⟨rfl, HT.out.below⟩
  ·by_cases h55 : op = 55
   ·subst h55
    go_wp2_with fail;go_ret2;exact ⟨rfl, HT.out.below⟩
   ·by_cases h51 : op = 51
    ·subst h51
     go_wp2_with fail;go_ret2;exact ⟨rfl, HT.out.below⟩
    ·by_cases h57 : op = 57
     ·subst h57
      obtain ⟨ha0, ha1⟩ := hw rfl;obtain ⟨m, rfl⟩ : ∃ m : Nat, a = m := ⟨a.toNat, by omega⟩
      have hm : m < p.obs.length := by omega
      obtain ⟨b9, off9, hA9, hb9, d0, d1, d2, d3⟩ := h.ob hm;have q3 := (HT.out.below.cell (p := ⟨b9, off9 + m * 4 + 3, none⟩) hb9).trans d3;have e3 : p.obs.getD m default = p.obs[m] := by simp [hm]
      have hv : acqVal p ⟨57, m, b, c, args, argA, argC⟩ = .tuple #[.int .i64 p.obs[m].other, .bool true] := by simp only [acqVal, acq]; rw [if_neg (by decide), if_neg (by decide), if_pos (by decide)]; simp only [Int.toNat_natCast, e3]
      have HV := hid hv;clear d0 d1 d2 d3 hv e3 h hw;simp only [hA9] at x1 ⊢;clear hA9;go_wp2_with fail;go_ret2;exact ⟨by rw [HV.out]; rfl, HT.out.below⟩
     ·have e1 : (op == 50) = false := by simpa using h50
      have e2 : (op == 53) = false := by simpa using h53
      have e3 : (op == 55) = false := by simpa using h55
      have e4 : (op == 51) = false := by simpa using h51
      have e5 : (op == 57) = false := by simpa using h57
      have hv : acqVal p ⟨op, a, b, c, args, argA, argC⟩ = .tuple #[.int .i64 0, .bool false] := by simp only [acqVal, acq]; rw [if_neg (by omega), if_neg (by omega), if_neg (by omega)]
      have HV := hid hv;clear h50 h53 h55 h51 h57 hv;go_wp2_with fail;go_ret2;exact ⟨by rw [HV.out]; rfl, HT.out.below⟩
theorem Lies.at_ {p : Prg} {w : World} {B : Nat} (h : Lies w B p) {f k : Nat} (hf : f < p.funs.length) (hk : k < p.len f) : ∃ b off b2 off2 : Nat, p.funA = some ⟨b, off, none⟩ ∧ b < B ∧ b2 < B ∧ w.cell? ⟨b, off + f * 6 + 4, none⟩ = some (.bool (p.fn f).clean) ∧ w.cell? ⟨b, off + f * 6 + 5, none⟩ = some (.slice (some ⟨b2, off2, none⟩) (p.len f) (p.fn f).codeC) ∧
  w.cell? ⟨b2, off2 + k * 5, none⟩ = some (.int .i64 (p.ins f k).op) ∧ w.cell? ⟨b2, off2 + k * 5 + 1, none⟩ = some (.int .i64 (p.ins f k).a) ∧ w.cell? ⟨b2, off2 + k * 5 + 2, none⟩ = some (.int .i64 (p.ins f k).b) ∧ w.cell? ⟨b2, off2 + k * 5 + 3, none⟩ = some (.int .i64 (p.ins f k).c) ∧
  w.cell? ⟨b2, off2 + k * 5 + 4, none⟩ = some (.slice (p.ins f k).argA (p.ins f k).args.length (p.ins f k).argC) := by
 obtain ⟨b, off, hA, hb, c0, c1, c2, c3, c4, c5⟩ := h.fn hf;obtain ⟨hk2, e⟩ := ins_eq hf hk;obtain ⟨b2, off2, hA2, hb2, d0, d1, d2, d3, d4⟩ := h.ins (f := p.funs[f]) (List.getElem_mem _) hk2;rw [← e] at d0 d1 d2 d3 d4;have hl : p.funs[f].code.length = p.len f := by rw [Prg.len, fn_eq hf]
 rw [hA2, hl] at c5;rw [← fn_eq hf] at c4 c5;exact ⟨b, off, b2, off2, hA, hb, hb2, c4, c5, d0, d1, d2, d3, d4⟩
theorem Lies.codeAt {p : Prg} {w : World} {B : Nat} (h : Lies w B p) {f : Nat} (hf : f < p.funs.length) : ∃ b off : Nat, p.funA = some ⟨b, off, none⟩ ∧ b < B ∧ w.cell? ⟨b, off + f * 6 + 4, none⟩ = some (.bool (p.fn f).clean) ∧ w.cell? ⟨b, off + f * 6 + 5, none⟩ = some (.slice (p.fn f).codeA (p.len f) (p.fn f).codeC) := by
 obtain ⟨b, off, hA, hb, c0, c1, c2, c3, c4, c5⟩ := h.fn hf;have hl : p.funs[f].code.length = p.len f := by rw [Prg.len, fn_eq hf]
 rw [hl] at c5;rw [← fn_eq hf] at c4 c5;exact ⟨b, off, hA, hb, c4, c5⟩
end
section
open Go.RowKit Go.Shelf
theorem bit_sv (m : Nat) : (2 : Int) ^ m % 4294967296 = ((bit m).toNat : Int) := by
 unfold bit;rw [BitVec.toNat_shiftLeft, Nat.shiftLeft_eq];have e1 : (BitVec.toNat 1#32) = 1 := rfl;have e2 : (2 : Nat) ^ 32 = 4294967296 := by decide
 have e3 : (2 : Int) ^ m = ((2 ^ m : Nat) : Int) := (Int.natCast_pow 2 m).symm;rw [e1, e2, e3, Nat.one_mul];generalize 2 ^ m = x;omega
theorem andNot_sv (x y : BS) : bits .andNot .u32 (x.toNat : Int) (y.toNat : Int) = ((x &&& ~~~ y).toNat : Int) := by
 have h : IntKind.u32.wrap (((BitVec.ofInt 32 (x.toNat : Int) &&& ~~~ BitVec.ofInt 32 (y.toNat : Int) : BitVec 32).toNat : Nat) : Int) = ((x &&& ~~~ y).toNat : Int) := by
  rw [BitVec.ofInt_natCast, BitVec.ofInt_natCast, BitVec.ofNat_toNat, BitVec.ofNat_toNat, BitVec.setWidth_eq, BitVec.setWidth_eq];have := (x &&& ~~~ y).isLt;show ((((x &&& ~~~ y).toNat : Int)) % 4294967296 : Int) = _;omega
 exact h
theorem behind_any (p : Prg) (hW : Wf p) (L : Lay) (w : World) (s : S) (h : Mem p L w s) (f k : Nat) (hf : f < p.funs.length) (hk : k < p.len f) :
  Calls Tryz.prog 87 #[.pointer (some ⟨L.A, 0, none⟩), .int .i64 f, .int .i64 k] w (Ret (.tuple #[sv (s.behind p f k).1, .bool (s.behind p f k).2]) w) := by
 have hI := hW.ins f k hf hk;obtain ⟨b, off, b2, off2, hA, hb, hb2, -, d5, q0, q1, q2, q3, q4⟩ := h.prog.at_ hf hk;have c0 := h.c0;have f0 := zi f;have f1 : (f : Int) < (p.funs.length : Int) := by omega
 have k0 := zi k;have k1 : (k : Int) < (p.len f : Int) := by omega
 have hlo := h.hi;have hacq := fun (W : World) (hb : Below w.heap.size w W) => acq_any p (p.ins f k) (fun e => (hI.wait e).1) W ((h.prog.more (by omega)).next hb)
 generalize hi : p.ins f k = i at q0 q1 q2 q3 q4 hacq hI;have hB : s.behind p f k = if i.op = 15 then ((s.get (.fin i.b.toNat)).2, (s.get (.fin i.b.toNat)).1) else if i.op = 36 then ((s.get (.at_ f k)).2 ||| cleanM p, true) else if i.op = 52 ∨ i.op = 54 ∨ i.op = 56 then ((s.get (.at_ f k)).2 &&& ~~~ bit i.a.toNat, true) else ((s.get (.at_ f k)).2 ||| acqBit p i, true) := by rw [← hi]; rfl
 obtain ⟨op, a, bb, c, args, argA, argC⟩ := i;dsimp only at q0 q1 q2 q3 q4 hB;unfold Prg.val Ins.val Ins.cells at hacq;dsimp only at hacq;rw [hA] at c0 hacq;have HB := hid hB;have HACQ := hid hacq;have HI := hid hI;have HM := hid h;clear hB hacq hi h hI hlo;unfold sv;go_enter Tryz.func87, Tryz.ntmps87;go_upto_region 2 with fail;clear c0 d5 q0 q1 q2 q3 q4;have hx := bx_new w #[.int .i64 op, .int .i64 a, .int .i64 bb, .int .i64 c, .slice argA args.length argC] 63;have hbl := below_alloc w (.cells #[.int .i64 op, .int .i64 a, .int .i64 bb, .int .i64 c, .slice argA args.length argC] 63);have hm := HM.out.below hbl;have hz : w.heap.size < (World.alloc w (.cells #[.int .i64 op, .int .i64 a, .int .i64 bb, .int .i64 c, .slice argA args.length argC] 63)).heap.size := by simp
 clear HM;generalize World.alloc w _ = W1 at hx hbl hm hz ⊢;have HBL := hid hbl;have HM := hid hm;obtain ⟨z0, z1, z2, z3, z4⟩ := bx5 hx;have HX := hid hx;have c10 := hm.c10;have cB := hm.outB f hf;have cs := (hm.slot (.at_ f k) ⟨hf, hk⟩).2.1;unfold Lay.tA sv at cs;dsimp only at cs;have hch := HM.out.sized;clear hm hbl hx hch;by_cases h15 : op = 15
 ·subst h15
  obtain ⟨hb0, hb1⟩ := HI.out.call (.inl rfl);dsimp only at hb0 hb1;obtain ⟨m, rfl⟩ : ∃ m : Nat, bb = m := ⟨bb.toNat, by omega⟩
  have hmn : m < p.funs.length := by omega
  have c8 := HM.out.c8;have c7 := HM.out.c7;have cf := (HM.out.slot (.fin m) hmn).2.1;have ck := (HM.out.slot (.fin m) hmn).1.1;unfold Lay.tA sv at cf;unfold Lay.kA at ck;dsimp only at cf ck;go_wp2_with fail;go_quiet (fail);go_wp2_with fail;go_ret2;exact ⟨by rw [HB.out]; rfl, HBL.out.trans ((below_drews _ _ _).mono HBL.out.size)⟩
 ·by_cases h36 : op = 36
  ·subst h36
   have c4 := HM.out.c4;unfold sv at c4;have HB2 := hid (show s.behind p f k = ((s.get (.at_ f k)).2 ||| cleanM p, true) from by have := HB.out; simpa using this);go_wp2_with fail;go_ret2;exact ⟨by rw [HB2.out, ← or_sv]; rfl, HBL.out⟩
  ·by_cases hun : op = 52 ∨ op = 54 ∨ op = 56
   ·have hidx : Idx a p.obs.length := by
     rcases hun with e | e | e
     ·exact (HI.out.lock (.inr e)).1
     ·exact (HI.out.rw (.inr (.inl e))).1
     ·exact (HI.out.rw (.inr (.inr (.inr e)))).1
    obtain ⟨ha0, ha1⟩ := hidx;obtain ⟨m, rfl⟩ : ∃ m : Nat, a = m := ⟨a.toNat, by omega⟩
    have hm16 : m < 16 := by have := hW.obs; omega
    have HB2 := hid (show s.behind p f k = ((s.get (.at_ f k)).2 &&& ~~~ bit m, true) from by rw [HB.out, if_neg h15, if_neg h36, if_pos hun]; rfl);rcases hun with rfl | rfl | rfl
    ·go_wp2_with fail
     go_ret2;exact ⟨by rw [HB2.out, ← andNot_sv, ← bit_sv]; rfl, HBL.out⟩
    ·go_wp2_with fail
     go_ret2;exact ⟨by rw [HB2.out, ← andNot_sv, ← bit_sv]; rfl, HBL.out⟩
    ·go_wp2_with fail
     go_ret2;exact ⟨by rw [HB2.out, ← andNot_sv, ← bit_sv]; rfl, HBL.out⟩
   ·have e1 : (op == 15) = false := by simpa using h15
    have e2 : (op == 36) = false := by simpa using h36
    have e3 : (op == 52) = false := by simp; omega
    have e4 : (op == 54) = false := by simp; omega
    have e5 : (op == 56) = false := by simp; omega
    have HB2 := hid (show s.behind p f k = ((s.get (.at_ f k)).2 ||| acqBit p ⟨op, a, bb, c, args, argA, argC⟩, true) from by rw [HB.out, if_neg h15, if_neg h36, if_neg hun]);clear HB h15 h36 hun;go_upto_region 12 with fail;have C0 := HM.out.c0;have C1 := HM.out.c1;have C2 := HM.out.c2;rw [hA] at C0;have y0 := fun d os => cell_regrown (w := W1) C0 d os
    have y1 := fun d os => cell_regrown (w := W1) C1 d os
    have y2 := fun d os => cell_regrown (w := W1) C2 d os
    have y3 := fun d os => cell_regrown (w := W1) z0 d os
    have y4 := fun d os => cell_regrown (w := W1) z1 d os
    have y5 := fun d os => cell_regrown (w := W1) z2 d os
    have y6 := fun d os => cell_regrown (w := W1) z3 d os
    have y7 := fun d os => cell_regrown (w := W1) z4 d os
    have HAC := hid (fun d os => HACQ.out (Go.Sort.grow (redrawn W1 d) os) (HBL.out.trans ((below_regrown W1 d os).mono HBL.out.size)));have HA := hid hA;clear hA
    cases hq : acq p ⟨op, a, bb, c, args, argA, argC⟩ with
    | none =>
     have HV : Hid (acqVal p ⟨op, a, bb, c, args, argA, argC⟩ = .tuple #[.int .i64 0, .bool false]) := by show _ = _; unfold acqVal; rw [hq]
     have HK : Hid ((s.get (.at_ f k)).2 ||| acqBit p ⟨op, a, bb, c, args, argA, argC⟩ = (s.get (.at_ f k)).2) := by show _ = _; unfold acqBit; rw [hq]; exact BitVec.or_zero
     rw [HV.out] at HAC;clear hq;refine wp_region_quiet_below (by kernel_rfl) (by kernel_rfl) ?_
     repeat (go_big_quiet_step (first | exact Calls.regrown_of (HAC.out _ _)))
     refine wpQuiet_nil ?_;rintro _ ⟨pq, rfl⟩;go_wp2_with fail;go_ret2;exact ⟨by rw [HB2.out, HK.out]; rfl, HBL.out.trans ((below_regrown _ _ _).mono HBL.out.size)⟩
    | some l =>
     have HV : Hid (acqVal p ⟨op, a, bb, c, args, argA, argC⟩ = .tuple #[.int .i64 l, .bool true]) := by show _ = _; unfold acqVal; rw [hq]
     have HK : Hid (acqBit p ⟨op, a, bb, c, args, argA, argC⟩ = bit l.toNat) := by show _ = _; unfold acqBit; rw [hq]
     obtain ⟨⟨hl0, hl1⟩, -⟩ := acq_idx HI.out hq;obtain ⟨m, rfl⟩ : ∃ m : Nat, l = m := ⟨l.toNat, by omega⟩
     have hm16 : m < 16 := by have := hW.obs; omega
     rw [HV.out] at HAC;clear hq;refine wp_region_quiet_below (by kernel_rfl) (by kernel_rfl) ?_
     repeat (go_big_quiet_step (first | exact Calls.regrown_of (HAC.out _ _)))
     refine wpQuiet_nil ?_;rintro _ ⟨pq, rfl⟩;go_wp2_with fail;go_ret2;exact ⟨by rw [HB2.out, HK.out, Int.toNat_natCast, ← or_sv, ← bit_sv]; rfl, HBL.out.trans ((below_regrown _ _ _).mono HBL.out.size)⟩
end
end Go.Proofs.YtkpjdanfpolimaaGreat
