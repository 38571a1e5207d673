/- Edges and graphs in memory. No conditions. · The lock graph's edges: in range, strictly ascending, between locks. Conditions: the program is well-formed. · The example programs of the laws: they are valid, and their lock graphs. No conditions. · digraph's less and Check, walked: a graph in order is valid. Conditions: the edges are in range and strictly ascending. -/
import Derived.Test.YtkpjdanfpolimaaGreatProg
import Derived.Test.YtkpjdanfpolimaaGreatLsBase
import Derived.Test.YtkpjdanfpolimaaGreatLsDgM
import Derived.Deep.OwnRows
import Derived.Test.YtkpjdanfpolimaaGreatLsGraph
import Derived.Deep.RegionWith
import Derived.BigQuiet
import Derived.Lib.Hide
import Derived.StillTailTactics
set_option maxRecDepth 100000
set_option maxHeartbeats 3200000
section
namespace Go.Proofs.YtkpjdanfpolimaaGreat
open Go.RowKit
def edC (l : List (Nat × Nat)) : List Value := l.flatMap fun c => [.int .i64 c.1, .int .i64 c.2]
theorem edC_cons (c : Nat × Nat) (l : List (Nat × Nat)) : edC (c :: l) = .int .i64 c.1 :: .int .i64 c.2 :: edC l := by simp [edC]
theorem edC_len (l : List (Nat × Nat)) : (edC l).length = l.length * 2 := by
 induction l with
 | nil => rfl
 | cons c l ih => rw [edC_cons]; simp only [List.length_cons, ih]; omega
theorem edC_fst (l : List (Nat × Nat)) (k : Nat) (hk : k < l.length) : (edC l)[k * 2]? = some (.int .i64 l[k].1) := by
 induction l generalizing k with
 | nil => simp at hk
 | cons c l ih =>
  rw [edC_cons]
  cases k with
  | zero => rfl
  | succ k => rw [show (k + 1) * 2 = k * 2 + 1 + 1 from by omega]; simpa using ih k (by simpa using hk)
theorem edC_snd (l : List (Nat × Nat)) (k : Nat) (hk : k < l.length) : (edC l)[k * 2 + 1]? = some (.int .i64 l[k].2) := by
 induction l generalizing k with
 | nil => simp at hk
 | cons c l ih =>
  rw [edC_cons]
  cases k with
  | zero => rfl
  | succ k => rw [show (k + 1) * 2 + 1 = k * 2 + 1 + 1 + 1 from by omega]; simpa using ih k (by simpa using hk)
theorem edC_one (l : List (Nat × Nat)) : ∀ u ∈ edC l, u.oneCell' = true := by
 intro u hu
 simp only [edC, List.mem_flatMap, List.mem_cons, List.not_mem_nil, or_false] at hu
 obtain ⟨c, _, rfl | rfl⟩ := hu <;> rfl
/-- The slice at A reads as the edges l, below block B. -/
def Eds (w : World) (B : Nat) (A : Option Addr) (l : List (Nat × Nat)) : Prop := Rd w B 2 A l.length (edC l)
def natC (l : List Nat) : List Value := l.map (fun (v : Nat) => Value.int .i64 (v : Int))
/-- The slice at A reads as the numbers l, below block B. -/
def Nts (w : World) (B : Nat) (A : Option Addr) (l : List Nat) : Prop := Rd w B 1 A l.length (natC l)
section
variable {w w' : World} {B : Nat} {A : Option Addr} {l : List (Nat × Nat)}
theorem Eds.at_ (h : Eds w B A l) {k : Nat} (hk : k < l.length) : ∃ b off : Nat, A = some ⟨b, off, none⟩ ∧ b < B ∧ w.cell? ⟨b, off + k * 2, none⟩ = some (.int .i64 l[k].1) ∧ w.cell? ⟨b, off + k * 2 + 1, none⟩ = some (.int .i64 l[k].2) := by
 obtain ⟨b, off, e, hb, hc⟩ := Rd.addr h (by omega)
 exact ⟨b, off, e, hb, hc _ _ (edC_fst l k hk), hc _ _ (edC_snd l k hk)⟩
theorem Eds.below (h : Eds w B A l) (hb : Below B w w') : Eds w' B A l := Rd.below h hb
theorem Eds.below' {C : Nat} (h : Eds w B A l) (hb : Below C w w') (hC : B ≤ C) : Eds w' B A l := Rd.below' h hb hC
end
section
variable {w w' : World} {B : Nat} {A : Option Addr} {l : List Nat}
theorem Nts.at_ (h : Nts w B A l) {k : Nat} (hk : k < l.length) : ∃ b off : Nat, A = some ⟨b, off, none⟩ ∧ b < B ∧ w.cell? ⟨b, off + k, none⟩ = some (.int .i64 l[k]) := by
 obtain ⟨b, off, e, hb, hc⟩ := Rd.addr h (by omega)
 exact ⟨b, off, e, hb, hc k _ (by simp [natC, hk])⟩
theorem Nts.below' {C : Nat} (h : Nts w B A l) (hb : Below C w w') (hC : B ≤ C) : Nts w' B A l := Rd.below' h hb hC
end
/-- The successors of l's graph over n nodes: the outer row in block N, all in blocks below B. -/
def Net (W : World) (B N n : Nat) (l : List (Nat × Nat)) : Prop :=
 N < B ∧ ∃ (rA : Nat → Option Addr) (rC : Nat → Nat), ∀ u, u < n → W.cell? ⟨N, u, none⟩ = some (.slice (rA u) (succs l u).length (rC u)) ∧ Nts W B (rA u) (succs l u)
/-- The graph as a value. -/
def netV (n N : Nat) : Value := .agg #[.int .i64 n, .slice (some ⟨N, 0, none⟩) n n]
theorem Net.below' {W W' : World} {B C N n : Nat} {l : List (Nat × Nat)} (h : Net W B N n l) (hb : Below C W W') (hC : B ≤ C) : Net W' B N n l := by
 obtain ⟨h1, rA, rC, h2⟩ := h
 exact ⟨h1, rA, rC, fun u hu => ⟨(hb.cell (show N < C by omega)).trans (h2 u hu).1, (h2 u hu).2.below' hb hC⟩⟩
theorem Net.more {W : World} {B C N n : Nat} {l : List (Nat × Nat)} (h : Net W B N n l) (hC : B ≤ C) : Net W C N n l := by
 obtain ⟨h1, rA, rC, h2⟩ := h
 exact ⟨by omega, rA, rC, fun u hu => ⟨(h2 u hu).1, Rd.more (h2 u hu).2 hC⟩⟩
/-- Edges are strictly ascending. -/
def Strict (l : List (Nat × Nat)) : Prop := l.Pairwise (fun a b => a.1 < b.1 ∨ (a.1 = b.1 ∧ a.2 < b.2))
theorem Strict.at_ {l : List (Nat × Nat)} (h : Strict l) {k : Nat} (hk : k + 1 < l.length) : l[k].1 < l[k + 1].1 ∨ (l[k].1 = l[k + 1].1 ∧ l[k].2 < l[k + 1].2) :=
 List.pairwise_iff_getElem.1 h k (k + 1) (by omega) hk (by omega)
end Go.Proofs.YtkpjdanfpolimaaGreat
end
section
namespace Go.Proofs.YtkpjdanfpolimaaGreat
open Go.RowKit
def isLock (p : Prg) (h : Nat) : Prop := ∃ o, p.obs[h]? = some o ∧ (o.kind = 1 ∨ o.kind = 2)
structure GoodT (p : Prg) (t : List BS) : Prop where
 row : ∀ h, Locks p (t.getD h 0)
 own : ∀ h i, (t.getD h 0).getLsbD i = true → isLock p h
theorem GoodT.set {p : Prg} {t : List BS} (g : GoodT p t) {h : Nat} (hh : isLock p h) {b : BS} (hb : Locks p b) : GoodT p (t.set h (t.getD h 0 ||| b)) := by
 have key : ∀ k, (t.set h (t.getD h 0 ||| b)).getD k 0 = t.getD k 0 ∨ k = h ∧ (t.set h (t.getD h 0 ||| b)).getD k 0 = t.getD h 0 ||| b := fun k => by
  simp only [List.getD_eq_getElem?_getD, List.getElem?_set]
  by_cases e : h = k
  ·subst e
   by_cases hl : h < t.length
   ·right; simp [hl]
   ·left; simp [hl]
  ·left; simp [e]
 constructor
 ·intro k
  rcases key k with e | ⟨-, e⟩ <;> rw [e]
  ·exact g.row k
  ·exact (g.row h).or hb
 ·intro k i hi
  rcases key k with e | ⟨e1, -⟩
  ·rw [e] at hi; exact g.own k i hi
  ·subst e1; exact hh
theorem GoodT.one {p : Prg} {t : List BS} (g : GoodT p t) (i : Ins) (l : Int) {h : Nat} (hh : isLock p h) (hl : isLock p l.toNat) : GoodT p (toOne i l t h) := by
 unfold toOne
 split
 ·exact g.set hh (Locks.bit hl)
 ·exact g
theorem GoodT.foldl {p : Prg} {α : Type} {step : List BS → α → List BS} : ∀ (l : List α) (t : List BS), GoodT p t → (∀ (t : List BS) (x : α), x ∈ l → GoodT p t → GoodT p (step t x)) → GoodT p (l.foldl step t)
 | [], _, h, _ => h
 | x :: r, t, h, hs => GoodT.foldl r _ (hs t x (by simp) h) (fun t y hy => hs t y (by simp [hy]))
theorem GoodT.step {p : Prg} {s : S} (hW : Wf p) (hF : Fine p s) {t : List BS} (g : GoodT p t) {f k : Nat} (hf : f < p.funs.length) (hk : k < p.len f) : GoodT p (toStep p s f t k) := by
 rw [toStep_eq]
 split
 ·exact g
 ·next l hl =>
  split
  ·exact g
  ·unfold oneTo
   exact GoodT.foldl _ _ g (fun t h hh g => g.one _ _ (hF.get _ h (listM_lt (List.mem_of_mem_take hh)).2) (acq_idx (hW.ins f k hf hk) hl).2)
theorem funTo_good {p : Prg} {s : S} (hW : Wf p) (hF : Fine p s) : GoodT p (funTo p s p.funs.length) := by
 unfold funTo
 refine GoodT.foldl _ _ ⟨fun h => ?_, fun h i hi => ?_⟩ (fun t f hf g => ?_)
 ·have : (List.replicate p.obs.length (0 : BS)).getD h 0 = 0 := by rw [List.getD_eq_getElem?_getD, List.getElem?_replicate]; split <;> rfl
  rw [this]; exact Locks.zero p
 ·have : (List.replicate p.obs.length (0 : BS)).getD h 0 = 0 := by rw [List.getD_eq_getElem?_getD, List.getElem?_replicate]; split <;> rfl
  rw [this] at hi; simp at hi
 ·unfold rowTo
  exact GoodT.foldl _ _ g (fun t k hk g => g.step hW hF (List.mem_range.1 hf) (List.mem_range.1 hk))
theorem mem_edgesTo {t : List BS} {n : Nat} {e : Nat × Nat} : e ∈ edgesTo t n ↔ e.1 < n ∧ e.2 ∈ listM (t.getD e.1 0) := by
 unfold edgesTo
 simp only [List.mem_flatMap, List.mem_range, List.mem_map]
 constructor
 ·rintro ⟨h, h1, l, h2, rfl⟩; exact ⟨h1, h2⟩
 ·rintro ⟨h1, h2⟩; exact ⟨e.1, h1, e.2, h2, rfl⟩
theorem edgesTo_strict (t : List BS) : ∀ n, Strict (edgesTo t n)
 | 0 => List.Pairwise.nil
 | n + 1 => by
  unfold Strict
  rw [edgesTo_succ, List.pairwise_append]
  refine ⟨edgesTo_strict t n, ?_, fun a ha b hb => ?_⟩
  ·rw [List.pairwise_map]
   exact (List.Pairwise.filter _ List.pairwise_lt_range).imp (fun h => .inr ⟨rfl, h⟩)
  ·obtain ⟨l, -, rfl⟩ := List.mem_map.1 hb
   exact .inl (mem_edgesTo.1 ha).1
section
variable {p : Prg} (hW : Wf p)
include hW
theorem graph_locks {e : Nat × Nat} (he : e ∈ graphOf p) : isLock p e.1 ∧ isLock p e.2 := by
 rw [graphOf_eq] at he
 obtain ⟨h1, h2⟩ := mem_edgesTo.1 he
 have g := funTo_good hW (analysis_fine hW)
 exact ⟨g.own _ _ (listM_lt h2).2, g.row _ _ (listM_lt h2).2⟩
theorem graph_range : EdR p.obs.length (graphOf p) := fun e he => by
 obtain ⟨⟨o1, h1, -⟩, ⟨o2, h2, -⟩⟩ := graph_locks hW he
 exact ⟨(List.getElem?_eq_some_iff.1 h1).1, (List.getElem?_eq_some_iff.1 h2).1⟩
end
theorem graph_strict (p : Prg) : Strict (graphOf p) := by rw [graphOf_eq]; exact edgesTo_strict _ _
theorem graph_len {p : Prg} (h : p.obs.length ≤ 16) : (graphOf p).length ≤ 256 := by
 rw [graphOf_eq]
 exact Nat.le_trans (edgesTo_len _ _) (by omega)
end Go.Proofs.YtkpjdanfpolimaaGreat
end
section
namespace Go.Proofs.YtkpjdanfpolimaaGreat
open Go.RowKit
def exIns (op a b c : Int) : Ins := ⟨op, a, b, c, [], none, 0⟩
def exFn (nm : ByteArray) (cd : List Ins) (A : Nat) : Fn := ⟨nm, 0, 1, 0, false, cd, some ⟨A, 0, none⟩, 4⟩
def exMain : List Ins := [exIns 35 (-1) (-1) 3, exIns 34 0 1 0, exIns 34 0 2 0, exIns 36 0 0 0]
def exLock (a b : Int) : List Ins := [exIns 50 a 0 0, exIns 50 b 0 0, exIns 52 b 0 0, exIns 52 a 0 0]
/-- The example, its parts in blocks M, A, B, F, O. -/
def exP (M A B F O : Nat) (a b : Int) : Prg := ⟨[exFn ⟨#[109, 97, 105, 110]⟩ exMain M, exFn ⟨#[97]⟩ (exLock 0 1) A, exFn ⟨#[98]⟩ (exLock a b) B], some ⟨F, 0, none⟩, 3, [⟨⟨#[109]⟩, 1, 0, 0⟩, ⟨⟨#[110]⟩, 1, 0, 0⟩], some ⟨O, 0, none⟩, 2, [], none, 0⟩
theorem iter_end (p : Prg) : ∀ (k m : Nat) (s : S), k ≤ m → (S.iter p k s).ch = false → S.iter p m s = S.iter p k s
 | 0, m, s, _, h => by
  cases m with
  | zero => rfl
  | succ m =>
   have h2 : s.ch = false := h
   show S.iter p (m + 1) s = s
   unfold S.iter
   rw [h2]; rfl
 | k + 1, m, s, hk, h => by
  obtain ⟨m, rfl⟩ : ∃ q, m = q + 1 := ⟨m - 1, by omega⟩
  rw [S.iter, S.iter]
  rw [S.iter] at h
  split
  ·next hc => rw [if_pos hc] at h; exact iter_end p k m _ (by omega) h
  ·rfl
theorem ex_fuel (M A B F O : Nat) (a b : Int) : 9 ≤ (exP M A B F O a b).fuel := by
 have h : 1 ≤ (exP M A B F O a b).slots := Nat.le_of_ble_eq_true (by kernel_rfl)
 unfold Prg.fuel
 omega
theorem ex_graph10 (M A B F O : Nat) : graphOf (exP M A B F O 1 0) = [(0, 1), (1, 0)] := by
 unfold graphOf analysis
 rw [iter_end _ 9 _ _ (ex_fuel M A B F O 1 0) (by kernel_rfl)]
 kernel_rfl
theorem ex_graph01 (M A B F O : Nat) : graphOf (exP M A B F O 0 1) = [(0, 1)] := by
 unfold graphOf analysis
 rw [iter_end _ 9 _ _ (ex_fuel M A B F O 0 1) (by kernel_rfl)]
 kernel_rfl
theorem ex_lock (M A B F O : Nat) (a b c : Int) (f : Fn) (hf : f.clean = false) (hc : c = 0 ∨ c = 1) : insOk (exP M A B F O a b) f (exIns 50 c 0 0) ∧ insOk (exP M A B F O a b) f (exIns 52 c 0 0) := by
 have h : opOk (exP M A B F O a b) f 12 1 c := by
  rcases hc with rfl | rfl
  ·exact ⟨by kernel_rfl, _, rfl, rfl⟩
  ·exact ⟨by kernel_rfl, _, rfl, rfl⟩
 exact ⟨⟨12, 1, 0, 0, 0, 0, 0, by kernel_rfl, fun z => absurd (hf.symm.trans z) (by decide), h, rfl, rfl, rfl, ⟨fun z => absurd z.1 (by show (50 : Int) ≠ 65; decide), fun z => absurd z.1 (by show (50 : Int) ≠ 67; decide)⟩⟩,
  ⟨12, 1, 0, 0, 0, 0, 0, by kernel_rfl, fun z => absurd (hf.symm.trans z) (by decide), h, rfl, rfl, rfl, ⟨fun z => absurd z.1 (by show (52 : Int) ≠ 65; decide), fun z => absurd z.1 (by show (52 : Int) ≠ 67; decide)⟩⟩⟩
theorem ex_code (M A B F O : Nat) (a b c d : Int) (f : Fn) (hf : f.clean = false) (hc : c = 0 ∨ c = 1) (hd : d = 0 ∨ d = 1) : ∀ i ∈ exLock c d, insOk (exP M A B F O a b) f i := by
 intro i hi
 have hi : i = exIns 50 c 0 0 ∨ i = exIns 50 d 0 0 ∨ i = exIns 52 d 0 0 ∨ i = exIns 52 c 0 0 := by simpa [exLock] using hi
 rcases hi with rfl | rfl | rfl | rfl
 ·exact (ex_lock M A B F O a b c f hf hc).1
 ·exact (ex_lock M A B F O a b d f hf hd).1
 ·exact (ex_lock M A B F O a b d f hf hd).2
 ·exact (ex_lock M A B F O a b c f hf hc).2
theorem ex_regs (f : Fn) : regsOk f [] := fun x hx => by cases hx
theorem ex_main (M A B F O : Nat) (a b : Int) : ∀ i ∈ exMain, insOk (exP M A B F O a b) (exFn ⟨#[109, 97, 105, 110]⟩ exMain M) i := by
 intro i hi
 have hi : i = exIns 35 (-1) (-1) 3 ∨ i = exIns 34 0 1 0 ∨ i = exIns 34 0 2 0 ∨ i = exIns 36 0 0 0 := by simpa [exMain] using hi
 rcases hi with rfl | rfl | rfl | rfl
 ·exact ⟨5, 0, 5, 0, 7, 0, 0, by kernel_rfl, fun z => absurd z (by show ¬ (false = true); decide), (show inR2 _ _ _ = true by kernel_rfl), (show inR2 _ _ _ = true by kernel_rfl), ⟨by kernel_rfl, _, rfl, rfl⟩, rfl, ⟨fun z => absurd z.1 (by show (35 : Int) ≠ 65; decide), fun z => absurd z.1 (by show (35 : Int) ≠ 67; decide)⟩⟩
 ·exact ⟨4, 0, 8, 0, 0, 0, 1, by kernel_rfl, fun z => absurd z (by show ¬ (false = true); decide), (show inR2 _ _ _ = true by kernel_rfl), ⟨by kernel_rfl, _, rfl, rfl⟩, rfl, ⟨⟨_, rfl, rfl⟩, ex_regs _⟩, ⟨fun z => absurd z.1 (by show (34 : Int) ≠ 65; decide), fun z => absurd z.1 (by show (34 : Int) ≠ 67; decide)⟩⟩
 ·exact ⟨4, 0, 8, 0, 0, 0, 1, by kernel_rfl, fun z => absurd z (by show ¬ (false = true); decide), (show inR2 _ _ _ = true by kernel_rfl), ⟨by kernel_rfl, _, rfl, rfl⟩, rfl, ⟨⟨_, rfl, rfl⟩, ex_regs _⟩, ⟨fun z => absurd z.1 (by show (34 : Int) ≠ 65; decide), fun z => absurd z.1 (by show (34 : Int) ≠ 67; decide)⟩⟩
 ·exact ⟨4, 0, 0, 0, 0, 0, 0, by kernel_rfl, fun z => absurd z (by show ¬ (false = true); decide), (show inR2 _ _ _ = true by kernel_rfl), rfl, rfl, rfl, ⟨fun z => absurd z.1 (by show (36 : Int) ≠ 65; decide), fun z => absurd z.1 (by show (36 : Int) ≠ 67; decide)⟩⟩
theorem ex_ok (M A B F O : Nat) (a b : Int) (ha : a = 0 ∨ a = 1) (hb : b = 0 ∨ b = 1) : prgOk (exP M A B F O a b) := by
 refine ⟨⟨by simp [exP], by simp [exP], by simp [exP], by simp [exP]⟩, fun k hk => ?_, fun k hk => ?_, fun k hk => ?_⟩
 ·match k, hk with
  | 0, _ => exact ⟨by kernel_rfl, by kernel_rfl, by kernel_rfl, by kernel_rfl, fun h => absurd h (by show (1 : Int) ≠ 3; decide), fun q hq => (by cases hq)⟩
  | 1, _ => exact ⟨by kernel_rfl, by kernel_rfl, by kernel_rfl, by kernel_rfl, fun h => absurd h (by show (1 : Int) ≠ 3; decide), fun q hq => (by
    have : q = ⟨⟨#[109]⟩, 1, 0, 0⟩ := by simpa [exP] using hq
    subst this; show (⟨#[109]⟩ : ByteArray) ≠ ⟨#[110]⟩; decide)⟩
  | k + 2, hk => exact absurd hk (by simp [exP])
 ·exact absurd hk (by simp [exP])
 ·match k, hk with
  | 0, _ => exact ⟨by kernel_rfl, fun q hq => (by cases hq), by kernel_rfl, by kernel_rfl, by kernel_rfl, fun z => absurd z.1 (by show ¬ (false = true); decide), by show (4 : Nat) ≤ 200; decide, fun _ => ⟨rfl, rfl⟩, ex_main M A B F O a b⟩
  | 1, _ => exact ⟨by kernel_rfl, fun q hq => (by
    have : q = exFn ⟨#[109, 97, 105, 110]⟩ exMain M := by simpa [exP] using hq
    subst this; show (⟨#[109, 97, 105, 110]⟩ : ByteArray) ≠ ⟨#[97]⟩; decide), by kernel_rfl, by kernel_rfl, by kernel_rfl, fun z => absurd z.1 (by show ¬ (false = true); decide), by show (4 : Nat) ≤ 200; decide, fun z => absurd z (by decide), ex_code M A B F O a b 0 1 _ rfl (.inl rfl) (.inr rfl)⟩
  | 2, _ => exact ⟨by kernel_rfl, fun q hq => (by
    have : q = exFn ⟨#[109, 97, 105, 110]⟩ exMain M ∨ q = exFn ⟨#[97]⟩ (exLock 0 1) A := by simpa [exP] using hq
    rcases this with rfl | rfl
    ·show (⟨#[109, 97, 105, 110]⟩ : ByteArray) ≠ ⟨#[98]⟩; decide
    ·show (⟨#[97]⟩ : ByteArray) ≠ ⟨#[98]⟩; decide), by kernel_rfl, by kernel_rfl, by kernel_rfl, fun z => absurd z.1 (by show ¬ (false = true); decide), by show (4 : Nat) ≤ 200; decide, fun z => absurd z (by decide), ex_code M A B F O a b a b _ rfl ha hb⟩
  | k + 3, hk => exact absurd hk (by simp [exP])
theorem ex_fits (M A B F O : Nat) (a b : Int) (ha : a = 0 ∨ a = 1) (hb : b = 0 ∨ b = 1) : Fits (exP M A B F O a b) := by
 intro f hf i hi
 have key : ∀ c d : Int, (c = 0 ∨ c = 1) → (d = 0 ∨ d = 1) → ∀ i ∈ exLock c d, I64 i.a ∧ I64 i.b ∧ I64 i.c ∧ ∀ x ∈ i.args, I64 x := fun c d hc hd i hi => by
  have hi : i = exIns 50 c 0 0 ∨ i = exIns 50 d 0 0 ∨ i = exIns 52 d 0 0 ∨ i = exIns 52 c 0 0 := by simpa [exLock] using hi
  rcases hi with rfl | rfl | rfl | rfl <;> refine ⟨?_, ?_, ?_, fun x hx => (by cases hx)⟩ <;> simp only [exIns, I64] <;> omega
 have hf : f = exFn ⟨#[109, 97, 105, 110]⟩ exMain M ∨ f = exFn ⟨#[97]⟩ (exLock 0 1) A ∨ f = exFn ⟨#[98]⟩ (exLock a b) B := by simpa [exP] using hf
 rcases hf with rfl | rfl | rfl
 ·have hi : i = exIns 35 (-1) (-1) 3 ∨ i = exIns 34 0 1 0 ∨ i = exIns 34 0 2 0 ∨ i = exIns 36 0 0 0 := by simpa [exFn, exMain] using hi
  rcases hi with rfl | rfl | rfl | rfl <;> refine ⟨?_, ?_, ?_, fun x hx => (by cases hx)⟩ <;> simp only [exIns, I64] <;> omega
 ·exact key 0 1 (.inl rfl) (.inr rfl) i hi
 ·exact key a b ha hb i hi
end Go.Proofs.YtkpjdanfpolimaaGreat
end
section
namespace Go.Proofs.YtkpjdanfpolimaaGreat
open Go.RowKit
def edV (e : Nat × Nat) : Value := .agg #[.int .i64 e.1, .int .i64 e.2]
theorem bx_new2 (w : World) (a b : Value) (t : TypeId) : (w.alloc (.cells #[a, b] t)).cell? ⟨w.heap.size, 0, none⟩ = some a ∧ (w.alloc (.cells #[a, b] t)).cell? ⟨w.heap.size, 1, none⟩ = some b := by simp
theorem less_any (a b : Nat × Nat) (ha : a.1 < 200 ∧ a.2 < 200) (hb : b.1 < 200 ∧ b.2 < 200) (hs : a.1 < b.1 ∨ (a.1 = b.1 ∧ a.2 < b.2)) (w : World) :
  Calls Tryz.prog 93 #[edV a, edV b] w fun e W => ∃ z : Int, z < 0 ∧ e = .returned (.int .i64 z) ∧ Below w.heap.size w W := by
 obtain ⟨a1, a2⟩ := a
 obtain ⟨b1, b2⟩ := b
 dsimp only at ha hb hs
 have hbb := (below_alloc w (.cells #[.int .i64 a1, .int .i64 a2] 47)).trans (below_alloc2 (by simp) (.cells #[.int .i64 b1, .int .i64 b2] 47))
 unfold edV
 by_cases h : a1 = b1
 ·subst h
  have hd : ((a1 : Int) != (a1 : Int)) = false := by simp
  have hw : IntKind.i64.wrap ((a2 : Int) - b2) = (a2 : Int) - b2 := by rw [IntKind.wrap_i64]; omega
  have hz : (a2 : Int) - b2 < 0 := by omega
  go_enter Tryz.func93, Tryz.ntmps93
  go_wp2_with fail
  go_ret
  exact ⟨_, hz, rfl, hbb⟩
 ·have hd : ((a1 : Int) != (b1 : Int)) = true := by simp; omega
  have hw : IntKind.i64.wrap ((a1 : Int) - b1) = (a1 : Int) - b1 := by rw [IntKind.wrap_i64]; omega
  have hz : (a1 : Int) - b1 < 0 := by omega
  go_enter Tryz.func93, Tryz.ntmps93
  go_wp2_with fail
  go_ret
  exact ⟨_, hz, rfl, hbb⟩
theorem dgCheck_ok (n : Nat) (A : Option Addr) (c : Nat) (l : List (Nat × Nat)) (hn : n ≤ 200) (hl : l.length ≤ 2000) (hr : EdR n l) (hs : Strict l) (w : World) (h : Eds w w.heap.size A l) :
  Calls Tryz.prog 74 #[.int .i64 n, .slice A l.length c] w (Ret (.int .i64 0) w) := by
 have hn0 : (0 : Int) ≤ (n : Int) := by omega
 have hd1 : decide ((n : Int) < 0) = false := decide_eq_false (by omega)
 have hd2 : decide ((200 : Int) < (n : Int)) = false := decide_eq_false (by omega)
 have hd3 : decide ((2000 : Int) < (l.length : Int)) = false := decide_eq_false (by omega)
 go_enter Tryz.func74, Tryz.ntmps74
 go_wp2_with fail
 go_loopw [5, 6, 18] (fun _ _ i wr => ∃ k : Nat, i = .int .i64 k ∧ k ≤ l.length ∧ Below w.heap.size w wr) (fun _ _ i _ => l.length - (intOf i).toNat)
 case atStart => exact ⟨0, rfl, by omega, Below.refl _ _⟩
 case round =>
  obtain ⟨k, rfl, hk, hb⟩ := hrel
  have hsz := hb.size
  by_cases hlt : k < l.length
  ·obtain ⟨b, off, rfl, had, h1, h2⟩ := (h.below hb).at_ hlt
   obtain ⟨r1, r2⟩ := hr _ (List.getElem_mem hlt)
   have hwr : IntKind.i64.wrap ((k : Int) + 1) = (k : Int) + 1 := by rw [IntKind.wrap_i64]; omega
   have hd4 : decide ((k : Int) < (l.length : Int)) = true := decide_eq_true (by omega)
   have hd5 : decide (((l[k].1 : Nat) : Int) < 0) = false := decide_eq_false (by omega)
   have hd6 : decide ((n : Int) ≤ ((l[k].1 : Nat) : Int)) = false := decide_eq_false (by omega)
   have hd7 : decide (((l[k].2 : Nat) : Int) < 0) = false := decide_eq_false (by omega)
   have hd8 : decide ((n : Int) ≤ ((l[k].2 : Nat) : Int)) = false := decide_eq_false (by omega)
   by_cases h0 : k = 0
   ·have hd9 : decide ((0 : Int) < (k : Int)) = false := decide_eq_false (by omega)
    have hd10 : decide (0 < k) = false := decide_eq_false (by omega)
    clear h0
    go_wp2_with fail
    go_quiet (fail)
    go_wp2_with fail
    go_round
    case rel => exact ⟨k + 1, rfl, by omega, (hb.trans (below_alloc2 hsz _)).trans ⟨rfl, rfl, rfl, Nat.le_refl _, fun _ _ => rfl⟩⟩
    case measure => show l.length - (intOf (Value.int IntKind.i64 ((k : Int) + 1))).toNat < l.length - (intOf (Value.int IntKind.i64 (k : Int))).toNat; simp only [intOf]; omega
   ·obtain ⟨j, rfl⟩ : ∃ j, k = j + 1 := ⟨k - 1, by omega⟩
    have hd9 : decide ((0 : Int) < ((j + 1 : Nat) : Int)) = true := decide_eq_true (by omega)
    have hd10 : decide ((0 : Int) < (j : Int) + 1) = true := decide_eq_true (by omega)
    have hd11 : decide (0 < j + 1) = true := decide_eq_true (by omega)
    have hwk : IntKind.i64.wrap (j : Int) = (j : Int) := by rw [IntKind.wrap_i64]; omega
    have hwj : IntKind.i64.wrap (((j + 1 : Nat) : Int) - 1) = (j : Int) := by rw [IntKind.wrap_i64]; omega
    have hj0 : (0 : Int) ≤ (j : Int) := by omega
    have hjl : (j : Int) < (l.length : Int) := by omega
    obtain ⟨b', off', e', -, p1, p2⟩ := (h.below hb).at_ (show j < l.length by omega)
    injection e' with e'
    injection e' with e1 e2
    subst e1; subst e2
    obtain ⟨q1, q2⟩ := hr _ (List.getElem_mem (show j < l.length by omega))
    have HLE := Lib.hid (less_any l[j] l[j + 1] ⟨by omega, by omega⟩ ⟨by omega, by omega⟩ (hs.at_ hlt))
    clear h0
    go_wp2_with fail
    have hbx := bx_new2 wr (.int .i64 ((l[j + 1].1 : Nat) : Int)) (.int .i64 ((l[j + 1].2 : Nat) : Int)) 47
    have hb1 := hb.trans (below_alloc2 hsz (.cells #[.int .i64 ((l[j + 1].1 : Nat) : Int), .int .i64 ((l[j + 1].2 : Nat) : Int)] 47))
    have p3 := ((below_alloc wr (.cells #[.int .i64 ((l[j + 1].1 : Nat) : Int), .int .i64 ((l[j + 1].2 : Nat) : Int)] 47)).cell (block_lt_of_cell p1)).trans p1
    have p4 := ((below_alloc wr (.cells #[.int .i64 ((l[j + 1].1 : Nat) : Int), .int .i64 ((l[j + 1].2 : Nat) : Int)] 47)).cell (block_lt_of_cell p2)).trans p2
    have hz := wr.size_alloc (.cells #[.int .i64 ((l[j + 1].1 : Nat) : Int), .int .i64 ((l[j + 1].2 : Nat) : Int)] 47)
    clear h1 h2 p1 p2 hb
    generalize wr.alloc _ = wa at hbx hb1 p3 p4 hz ⊢
    generalize wr.heap.size = G at hbx hsz hz ⊢
    obtain ⟨x0, x1⟩ := hbx
    go_still_tail 9, (by kernel_rfl)
    change wpList _ _ _ _ _ wa.drew
    have hb2 := hb1.drew
    have hz2 : wa.drew.heap.size = G + 1 := hz
    clear hb1 p3 p4 x0 x1 hz
    generalize wa.drew = wd at hb2 hz2 ⊢
    unfold edV at HLE
    have hle := hb2.size
    go_wp2_with fail
    refine (HLE.out wd).mono ?_
    rintro e W2 ⟨z, hz0, rfl, hb3⟩
    have hd12 : decide (0 ≤ z) = false := decide_eq_false (by omega)
    have hb4 := hb2.trans (hb3.mono hle)
    clear hb2 hb3 hle hz2
    go_wp2_with fail
    go_round
    case rel => exact ⟨j + 1 + 1, rfl, by omega, hb4⟩
    case measure => show l.length - (intOf (Value.int IntKind.i64 ((j : Int) + 1 + 1))).toNat < l.length - (intOf (Value.int IntKind.i64 ((j : Int) + 1))).toNat; simp only [intOf]; omega
  ·go_wp2_with fail
   go_ret
   exact ⟨rfl, hb⟩
end Go.Proofs.YtkpjdanfpolimaaGreat
end
