/- Words of this seat's own: what a pure call leaves, a stretch of cells that reads as a list of values, and how both outlive later worlds. Conditions: none. -/
import Derived.WalkKit
import Derived.WalkSpells
import Derived.WalkLawsBesides
import Derived.Lib.Hide
import Derived.Maps.AppendAt
import Derived.Deep.AppendLies
import Derived.Deep.Draws
namespace Go.Proofs.YtaficbkaofhjeaaDoor
open Go.RowKit

/-- The call returns v; nothing that lay in memory before has changed. -/
def Ret (v : Value) (w : World) : Ending → World → Prop := fun e w' => e = .returned v ∧ Below w.heap.size w w'
theorem Ret.mk {v : Value} {w w' : World} (h : Below w.heap.size w w') : Ret v w (.returned v) w' := ⟨rfl, h⟩

/-- The slice with address A, n elements of `size` cells each, holds the cells xs, and lies below block B. -/
def Rd (w : World) (B size : Nat) (A : Option Addr) (n : Nat) (xs : List Value) : Prop :=
  xs.length = n * size ∧ (n = 0 ∨ ∃ b off : Nat, A = some ⟨b, off, none⟩ ∧ b < B ∧ ∀ j u, xs[j]? = some u → w.cell? ⟨b, off + j, none⟩ = some u)

section
variable {w w' : World} {B B' size n : Nat} {A : Option Addr} {xs : List Value}
theorem Rd.len (h : Rd w B size A n xs) : xs.length = n * size := h.1
theorem Rd.nil_ : Rd w B size A 0 [] := ⟨by simp, .inl rfl⟩
theorem Rd.addr (h : Rd w B size A n xs) (hn : 0 < n) : ∃ b off : Nat, A = some ⟨b, off, none⟩ ∧ b < B ∧ ∀ j u, xs[j]? = some u → w.cell? ⟨b, off + j, none⟩ = some u := by
  rcases h.2 with h0 | h1
  · omega
  · exact h1
theorem Rd.keep (h : Rd w B size A n xs) (hk : ∀ p : Addr, p.block < B → w'.cell? p = w.cell? p) : Rd w' B size A n xs := by
  refine ⟨h.1, ?_⟩
  rcases h.2 with h0 | ⟨b, o, e, hb, hc⟩
  · exact .inl h0
  · exact .inr ⟨b, o, e, hb, fun j u hu => (hk _ hb).trans (hc j u hu)⟩
theorem Rd.more (h : Rd w B size A n xs) (hB : B ≤ B') : Rd w B' size A n xs := by
  refine ⟨h.1, ?_⟩
  rcases h.2 with h0 | ⟨b, o, e, hb, hc⟩
  · exact .inl h0
  · exact .inr ⟨b, o, e, by omega, hc⟩
theorem Rd.below (h : Rd w B size A n xs) (hb : Below B w w') : Rd w' B size A n xs := h.keep fun _ hp => hb.cell hp
theorem Rd.below' {C : Nat} (h : Rd w B size A n xs) (hb : Below C w w') (hC : B ≤ C) : Rd w' B size A n xs := h.below (hb.mono hC)
theorem Rd.drewN (h : Rd w B size A n xs) (k : Nat) : Rd (w.drewN k) B size A n xs := h
theorem Rd.alloc (h : Rd w B size A n xs) (hB : B ≤ w.heap.size) (o : Obj) : Rd (w.alloc o) B size A n xs := h.keep fun p hp => World.cell?_alloc_lt w o p (by omega)
theorem Rd.setCell (h : Rd w B size A n xs) {p : Addr} (hB : B ≤ p.block) (u : Value) : Rd (w.setCell p u) B size A n xs :=
  h.keep fun q hq => World.cell?_setCell_other w p q u (fun e => by subst e; omega)
theorem Rd.grown (h : Rd w B size A n xs) {row : Option Nat} (hg : w.grownBy w' row) (hB : B ≤ w.heap.size) (hr : ∀ g, row = some g → B ≤ g) : Rd w' B size A n xs :=
  h.keep fun p hp => World.cell?_of_block (hg.block p.block (by omega) (fun e => by have := hr _ e.symm; omega))
theorem Rd.take (h : Rd w B size A n xs) {k : Nat} (hk : k ≤ n) : Rd w B size A k (xs.take (k * size)) := by
  have hks : k * size ≤ n * size := Nat.mul_le_mul_right _ hk
  refine ⟨by rw [List.length_take, h.1]; omega, ?_⟩
  rcases h.2 with h0 | ⟨b, o, e, hb, hc⟩
  · exact .inl (by omega)
  · refine .inr ⟨b, o, e, hb, fun j u hu => hc j u ?_⟩
    rw [List.getElem?_take] at hu
    split at hu
    · exact hu
    · cases hu
theorem Rd.drop (h : Rd w B size A n xs) {k cap : Nat} (hk : k ≤ n) (hc : n ≤ cap) :
    Rd w B size (if cap = k then A else A.map (·.add (k * size))) (n - k) (xs.drop (k * size)) := by
  refine ⟨by rw [List.length_drop, h.1, Nat.sub_mul], ?_⟩
  by_cases hn : n - k = 0
  · exact .inl hn
  · right
    obtain ⟨b, o, rfl, hb, hcell⟩ := h.addr (by omega)
    rw [if_neg (by omega)]
    refine ⟨b, o + k * size, ?_, hb, fun j u hu => ?_⟩
    · by_cases h0 : k * size = 0
      · simp [Addr.add, h0]
      · simp [Addr.add, h0]
    · rw [Nat.add_assoc]
      exact hcell _ u (by rw [← hu, List.getElem?_drop])
theorem Rd.of_own {base : Nat} {e : TypeId} {c : Nat} (h : w.ownsRow base e size (.slice A n c) n xs) : Rd w w.heap.size size A n xs := by
  refine ⟨h.1, ?_⟩
  by_cases hn : n = 0
  · exact .inl hn
  · obtain ⟨g, cap, hv, _, hlt⟩ := h.form (by omega)
    have hA : A = some ⟨g, 0, none⟩ := by injection hv
    subst hA
    refine .inr ⟨_, 0, rfl, hlt, fun j u hu => ?_⟩
    have := h.cells (g := g) rfl j u hu
    by_cases h0 : j = 0
    · subst h0; simpa [Addr.add] using this
    · simpa [Addr.add, h0] using this
/-- The cells as an append law asks them. -/
theorem Rd.news (h : Rd w B size A n xs) {b off : Nat} (hA : A = some ⟨b, off, none⟩) (hn : 0 < n) : ∀ j u, xs[j]? = some u → w.cell? ((⟨b, off, none⟩ : Addr).add j) = some u := by
  obtain ⟨b', off', e, _, hc⟩ := h.addr hn
  rw [hA] at e
  cases e
  intro j u hu
  have := hc j u hu
  by_cases h0 : j = 0
  · subst h0; simpa [Addr.add] using this
  · simpa [Addr.add, h0] using this
end

/-- What lay below a pure call's world reads as it did: as rules for the walk. -/
theorem bcell {W w1 : World} (hb : Below W.heap.size W w1) : (∀ b o, b < W.heap.size → w1.cell? ⟨b, o, none⟩ = W.cell? ⟨b, o, none⟩) ∧ (∀ b o, b < W.heap.size → w1.frozen? ⟨b, o, none⟩ = W.frozen? ⟨b, o, none⟩) :=
  ⟨fun b o h => hb.cell (p := ⟨b, o, none⟩) h, fun b o h => hb.frozen (p := ⟨b, o, none⟩) h⟩

theorem below_alloc (w : World) (o : Obj) : Below w.heap.size w (w.alloc o) := (Below.refl _ _).alloc (Nat.le_refl _) o

theorem below_alloc2 {B : Nat} {w : World} (h : B ≤ w.heap.size) (o : Obj) : Below B w (w.alloc o) := (Below.refl _ _).alloc h o

#print axioms Rd.drop
end Go.Proofs.YtaficbkaofhjeaaDoor
