/- Words of this seat's own: what a pure call leaves, a stretch of cells that reads as a list of values, and how both outlive later worlds. Conditions: none. -/
import Derived.WalkKit
import Derived.WalkSpells
import Derived.WalkLawsBesides
import Derived.Lib.Hide
import Derived.Maps.AppendAt
import Derived.Deep.AppendLies
import Derived.Deep.Draws
import Derived.Laws.AppendOwnNone
import Derived.Lib.AppendStr
import Derived.OwnWalkIn
namespace Go.Proofs.YtkiilaajomjinaaGreatDoor
open Go.RowKit

/-- The call returns v; nothing that lay in memory before has changed. -/
def Ret (v : Value) (w : World) : Ending → World → Prop := fun e w' => e = .returned v ∧ Below w.heap.size w w'
theorem Ret.mk {v : Value} {w w' : World} (h : Below w.heap.size w w') : Ret v w (.returned v) w' := ⟨rfl, h⟩

/-- The slice with address A, n elements of `size` cells each, holds the cells xs, and lies below block B. -/
def Rd (w : World) (B size : Nat) (A : Option Addr) (n : Nat) (xs : List Value) : Prop :=
  xs.length = n * size ∧ (n = 0 ∨ ∃ b off : Nat, A = some ⟨b, off, none⟩ ∧ b < B ∧ ∀ j u, xs[j]? = some u → w.cell? ⟨b, off + j, none⟩ = some u)

section
variable {w w' : World} {B B' size n : Nat} {A : Option Addr} {xs : List Value}
theorem Rd.len (h : Rd w B size A n xs) : xs.length = n * size := h.1
theorem Rd.nil_ : Rd w B size A 0 [] := ⟨by simp, .inl rfl⟩
theorem Rd.addr (h : Rd w B size A n xs) (hn : 0 < n) : ∃ b off : Nat, A = some ⟨b, off, none⟩ ∧ b < B ∧ ∀ j u, xs[j]? = some u → w.cell? ⟨b, off + j, none⟩ = some u := by
  rcases h.2 with h0 | h1
  · omega
  · exact h1
theorem Rd.keep (h : Rd w B size A n xs) (hk : ∀ p : Addr, p.block < B → w'.cell? p = w.cell? p) : Rd w' B size A n xs := by
  refine ⟨h.1, ?_⟩
  rcases h.2 with h0 | ⟨b, o, e, hb, hc⟩
  · exact .inl h0
  · exact .inr ⟨b, o, e, hb, fun j u hu => (hk _ hb).trans (hc j u hu)⟩
theorem Rd.more (h : Rd w B size A n xs) (hB : B ≤ B') : Rd w B' size A n xs := by
  refine ⟨h.1, ?_⟩
  rcases h.2 with h0 | ⟨b, o, e, hb, hc⟩
  · exact .inl h0
  · exact .inr ⟨b, o, e, by omega, hc⟩
theorem Rd.below (h : Rd w B size A n xs) (hb : Below B w w') : Rd w' B size A n xs := h.keep fun _ hp => hb.cell hp
theorem Rd.below' {C : Nat} (h : Rd w B size A n xs) (hb : Below C w w') (hC : B ≤ C) : Rd w' B size A n xs := h.below (hb.mono hC)
theorem Rd.drewN (h : Rd w B size A n xs) (k : Nat) : Rd (w.drewN k) B size A n xs := h
theorem Rd.alloc (h : Rd w B size A n xs) (hB : B ≤ w.heap.size) (o : Obj) : Rd (w.alloc o) B size A n xs := h.keep fun p hp => World.cell?_alloc_lt w o p (by omega)
theorem Rd.setCell (h : Rd w B size A n xs) {p : Addr} (hB : B ≤ p.block) (u : Value) : Rd (w.setCell p u) B size A n xs :=
  h.keep fun q hq => World.cell?_setCell_other w p q u (fun e => by subst e; omega)
theorem Rd.grown (h : Rd w B size A n xs) {row : Option Nat} (hg : w.grownBy w' row) (hB : B ≤ w.heap.size) (hr : ∀ g, row = some g → B ≤ g) : Rd w' B size A n xs :=
  h.keep fun p hp => World.cell?_of_block (hg.block p.block (by omega) (fun e => by have := hr _ e.symm; omega))
theorem Rd.take (h : Rd w B size A n xs) {k : Nat} (hk : k ≤ n) : Rd w B size A k (xs.take (k * size)) := by
  have hks : k * size ≤ n * size := Nat.mul_le_mul_right _ hk
  refine ⟨by rw [List.length_take, h.1]; omega, ?_⟩
  rcases h.2 with h0 | ⟨b, o, e, hb, hc⟩
  · exact .inl (by omega)
  · refine .inr ⟨b, o, e, hb, fun j u hu => hc j u ?_⟩
    rw [List.getElem?_take] at hu
    split at hu
    · exact hu
    · cases hu
theorem Rd.drop (h : Rd w B size A n xs) {k cap : Nat} (hk : k ≤ n) (hc : n ≤ cap) :
    Rd w B size (if cap = k then A else A.map (·.add (k * size))) (n - k) (xs.drop (k * size)) := by
  refine ⟨by rw [List.length_drop, h.1, Nat.sub_mul], ?_⟩
  by_cases hn : n - k = 0
  · exact .inl hn
  · right
    obtain ⟨b, o, rfl, hb, hcell⟩ := h.addr (by omega)
    rw [if_neg (by omega)]
    refine ⟨b, o + k * size, ?_, hb, fun j u hu => ?_⟩
    · by_cases h0 : k * size = 0
      · simp [Addr.add, h0]
      · simp [Addr.add, h0]
    · rw [Nat.add_assoc]
      exact hcell _ u (by rw [← hu, List.getElem?_drop])
theorem Rd.of_own {base : Nat} {e : TypeId} {c : Nat} (h : w.ownsRow base e size (.slice A n c) n xs) : Rd w w.heap.size size A n xs := by
  refine ⟨h.1, ?_⟩
  by_cases hn : n = 0
  · exact .inl hn
  · obtain ⟨g, cap, hv, _, hlt⟩ := h.form (by omega)
    have hA : A = some ⟨g, 0, none⟩ := by injection hv
    subst hA
    refine .inr ⟨_, 0, rfl, hlt, fun j u hu => ?_⟩
    have := h.cells (g := g) rfl j u hu
    by_cases h0 : j = 0
    · subst h0; simpa [Addr.add] using this
    · simpa [Addr.add, h0] using this
/-- The cells as an append law asks them. -/
theorem Rd.news (h : Rd w B size A n xs) {b off : Nat} (hA : A = some ⟨b, off, none⟩) (hn : 0 < n) : ∀ j u, xs[j]? = some u → w.cell? ((⟨b, off, none⟩ : Addr).add j) = some u := by
  obtain ⟨b', off', e, _, hc⟩ := h.addr hn
  rw [hA] at e
  cases e
  intro j u hu
  have := hc j u hu
  by_cases h0 : j = 0
  · subst h0; simpa [Addr.add] using this
  · simpa [Addr.add, h0] using this
end

/-- What lay below a pure call's world reads as it did: as rules for the walk. -/
theorem bcell {W w1 : World} (hb : Below W.heap.size W w1) : (∀ b o, b < W.heap.size → w1.cell? ⟨b, o, none⟩ = W.cell? ⟨b, o, none⟩) ∧ (∀ b o, b < W.heap.size → w1.frozen? ⟨b, o, none⟩ = W.frozen? ⟨b, o, none⟩) :=
  ⟨fun b o h => hb.cell (p := ⟨b, o, none⟩) h, fun b o h => hb.frozen (p := ⟨b, o, none⟩) h⟩

theorem below_alloc (w : World) (o : Obj) : Below w.heap.size w (w.alloc o) := (Below.refl _ _).alloc (Nat.le_refl _) o

theorem below_alloc2 {B : Nat} {w : World} (h : B ≤ w.heap.size) (o : Obj) : Below B w (w.alloc o) := (Below.refl _ _).alloc h o

#print axioms Rd.drop
end Go.Proofs.YtkiilaajomjinaaGreatDoor

/- append onto a row of the call's own from a slice that reads as a list, nil and empty let in. Conditions: none. -/
namespace Go.Proofs.YtkiilaajomjinaaGreatDoor
open Go.RowKit

section
variable {P : Program}
theorem run_append_none_ (w : World) (base : Nat) (t ty e : TypeId) (i : TypeInfo) (size : Nat) (ht : P.underlying t = some (.slice e)) (hi : P.info? e = some i)
    (v : Value) (n : Nat) (xs : List Value) (hown : w.ownsRow base e size v n xs) (c : Nat) : (Builtin.append_ #[t, t] ty #[v, .slice none 0 c]).run P w = .ok v w := by
  rcases hown.2 with ⟨rfl, rfl⟩ | ⟨g, cap, cur, rfl, _, _, hnc, _⟩
  · simp [Builtin.append_, run_underlying ht, sizeOf, typeInfo, hi, Builtin.lenOf, Builtin.firstCells]
  · simp [Builtin.append_, run_underlying ht, sizeOf, typeInfo, hi, Builtin.lenOf, Builtin.firstCells, hnc, storeCells]

theorem run_append_rd (w : World) (base : Nat) (t ty e : TypeId) (i : TypeInfo) (z : Value) (size bytes : Nat) (ht : P.underlying t = some (.slice e)) (hi : P.info? e = some i) (hz : i.zero = some z)
    (hsize : i.size = size) (hby : i.bytes = bytes) (hzs : z.cells.size = size) (hsz : 0 < size)
    (v : Value) (n : Nat) (xs : List Value) (hown : w.ownsRow base e size v n xs)
    (B : Nat) (A : Option Addr) (m c : Nat) (news : List Value) (hr : Rd w B size A m news) (h1 : ∀ u ∈ news, u.oneCell' = true)
    (h63 : n + m ≤ maxLen) (hbytes : (n + m) * bytes ≤ 140737488355328) (hbase : base ≤ w.heap.size) :
    ∃ v' w', (Builtin.append_ #[t, t] ty #[v, .slice A m c]).run P w = .ok v' w' ∧ w'.ownsRow base e size v' (n + m) (xs ++ news) ∧ w.grownBy w' v.ownBlock ∧
      (v'.ownBlock = v.ownBlock ∨ v'.ownBlock = some w.heap.size) := by
  cases A with
  | none =>
    obtain rfl : m = 0 := by
      rcases hr.2 with h0 | ⟨b, o, h, _⟩
      · exact h0
      · cases h
    obtain rfl : news = [] := List.eq_nil_of_length_eq_zero (by simpa using hr.1)
    exact ⟨v, w, run_append_none_ w base t ty e i size ht hi v n xs hown c, by simpa using hown, World.grownBy.refl w _, .inl rfl⟩
  | some ad =>
    have hc : ∀ j u, news[j]? = some u → w.cell? (ad.add j) = some u := by
      rcases hr.2 with h0 | ⟨b, o, h, hb⟩
      · subst h0
        obtain rfl : news = [] := List.eq_nil_of_length_eq_zero (by simpa using hr.1)
        intro j u hu; simp at hu
      · cases h
        intro j u hu
        have := hb.2 j u hu
        by_cases h0 : j = 0
        · subst h0; simpa [Addr.add] using this
        · simpa [Addr.add, h0] using this
    obtain ⟨v', w', h2, h3, h4, _, h5⟩ := run_append_own_at (P := P) w base t ty e i z size bytes ht hi hz hsize hby hzs hsz v n xs hown ad m c news hr.1 hc h1 h63 hbytes hbase
    exact ⟨v', w', h2, h3, h4, h5⟩

theorem wpList_append_rd {ops : Array Oper} {rest : List Oper} {o : Oper} {a : Act} {w : World} {Q : Exit → Act → World → Prop} (hgd : o.guard = none) (s x : Operand) (t : TypeId)
    (ho : o.op = .call { callee := .builtin .append, args := #[s, x], argTypes := #[t, t] })
    (base : Nat) (e : TypeId) (i : TypeInfo) (z : Value) (size bytes : Nat) (ht : P.underlying t = some (.slice e)) (hi : P.info? e = some i) (hz : i.zero = some z)
    (hsize : i.size = size) (hby : i.bytes = bytes) (hzs : z.cells.size = size) (hsz : 0 < size)
    (v : Value) (n : Nat) (xs : List Value) (hs : a.eval s = v) (hown : w.ownsRow base e size v n xs)
    (B : Nat) (A : Option Addr) (m c : Nat) (news : List Value) (hx : a.eval x = .slice A m c) (hr : Rd w B size A m news) (h1 : ∀ u ∈ news, u.oneCell' = true)
    (h63 : n + m ≤ maxLen) (hbytes : (n + m) * bytes ≤ 140737488355328) (hbase : base ≤ w.heap.size)
    (h : ∀ v' w', w'.ownsRow base e size v' (n + m) (xs ++ news) → w.grownBy w' v.ownBlock → (v'.ownBlock = v.ownBlock ∨ v'.ownBlock = some w.heap.size) → wpList P ops Q rest (a.put o.dst v') w') : wpList P ops Q (o :: rest) a w := by
  refine wpList_plain hgd fun K hK => ?_
  obtain ⟨v', w', hrun, h2, h3, h4⟩ := run_append_rd (P := P) w base t o.type e i z size bytes ht hi hz hsize hby hzs hsz v n xs hown B A m c news hr h1 h63 hbytes hbase
  unfold Oper.wp execOp
  simp only [ho, resolve, invoke, builtin, Sem.run_bind, Sem.run_pure, Result.andThen_ok, List.map_toArray, List.map_cons, List.map_nil, hs, hx, hrun]
  exact hK _ _ (h v' w' h2 h3 h4)
end

/-- An owned row's value, written out. -/
theorem own_form {w : World} {base : Nat} {e : TypeId} {size : Nat} {v : Value} {n : Nat} {xs : List Value} (h : w.ownsRow base e size v n xs) : ∃ A c, v = .slice A n c := by
  rcases h.2 with ⟨rfl, rfl⟩ | ⟨g, cap, _, rfl, _⟩
  · exact ⟨_, _, rfl⟩
  · exact ⟨_, _, rfl⟩

/-- Bytes as cells. -/
def u8s (l : List UInt8) : List Value := l.map fun b => .int .u8 (b.toNat : Int)
theorem u8s_len (l : List UInt8) : (u8s l).length = l.length := by simp [u8s]
theorem u8s_append (l m : List UInt8) : u8s (l ++ m) = u8s l ++ u8s m := by simp [u8s]
theorem u8s_one (l : List UInt8) : ∀ u ∈ u8s l, u.oneCell' = true := by
  intro u hu
  simp only [u8s, List.mem_map] at hu
  obtain ⟨b, _, rfl⟩ := hu
  rfl
theorem u8s_at (l : List UInt8) (k : Nat) (h : k < l.length) : (u8s l)[k]? = some (.int .u8 ((l[k]).toNat : Int)) := by simp [u8s, h]
/-- Integers as cells. -/
def i64s (l : List Int) : List Value := l.map (.int .i64)
theorem i64s_len (l : List Int) : (i64s l).length = l.length := by simp [i64s]
theorem i64s_append (l m : List Int) : i64s (l ++ m) = i64s l ++ i64s m := by simp [i64s]
theorem i64s_one (l : List Int) : ∀ u ∈ i64s l, u.oneCell' = true := by
  intro u hu
  simp only [i64s, List.mem_map] at hu
  obtain ⟨b, _, rfl⟩ := hu
  rfl
theorem i64s_at (l : List Int) (k : Nat) (h : k < l.length) : (i64s l)[k]? = some (.int .i64 l[k]) := by simp [i64s, h]

/-- v is a slice of bytes of the call's own, from block `base` on, that holds l. -/
def OwnB (w : World) (base e : Nat) (v : Value) (l : List UInt8) : Prop := w.ownsRow base e 1 v l.length (u8s l)
theorem str_of_u8 (l : List UInt8) : strOfNums (l.map fun b => (b.toNat : Int)) = ⟨l.toArray⟩ := by
  unfold strOfNums
  congr 2
  rw [List.map_map, List.map_congr_left (g := id) (fun b _ => by simp)]
  simp

theorem own_below {w w' : World} {base e : Nat} {v : Value} {l : List UInt8} (h : OwnB w base e v l) (hb : Below w.heap.size w w') : OwnB w' base e v l := by
  have h' : w.ownsRow base e 1 v l.length (u8s l) := h
  have hg : w.grownBy w' none := ⟨hb.os, hb.tape, hb.output, hb.size, fun k hk _ => hb.block k hk⟩
  rcases h'.2 with ⟨rfl, _⟩ | ⟨g, cap, cur, rfl, _⟩
  · exact World.ownsRow.kept h' hg (.inl rfl)
  · exact World.ownsRow.kept h' hg (.inr (by simp [Value.ownBlock]))
theorem own_of_eq {w : World} {base e n : Nat} {v : Value} {xs : List Value} {l : List UInt8} (hn : n = l.length) (hx : xs = u8s l) (h : w.ownsRow base e 1 v n xs) : OwnB w base e v l := by
  subst hn; subst hx; exact h
theorem run_convert_own {P : Program} {w : World} {base src e dst : Nat} {v : Value} {l : List UInt8} (hs : P.underlying src = some (.slice e)) (he : P.underlying e = some (.int .u8)) (hd : P.underlying dst = some .string)
    (h : OwnB w base e v l) : (convert src dst v).run P w = .ok (.string ⟨l.toArray⟩) w := by
  have h' : w.ownsRow base e 1 v l.length (u8s l) := h
  rcases h'.2 with ⟨rfl, h0⟩ | ⟨g, cap, cur, rfl, _⟩
  · obtain rfl : l = [] := List.eq_nil_of_length_eq_zero h0
    exact run_convert_bytes_nil w src e hs he 0 0 dst hd
  · rw [← str_of_u8]
    exact run_convert_bytes_arg w src e hs he g 0 l.length cap (l.map fun b => (b.toNat : Int)) (by simp) (fun i hi => by
      rw [Nat.zero_add, h'.cellAt i (by omega), u8s_at l i hi]; simp [hi]) dst hd

#print axioms wpList_append_rd
end Go.Proofs.YtkiilaajomjinaaGreatDoor

/- Expressions in plain Lean: sizes, validity, types, values, and when a policy ranks. No program in sight. -/
namespace Go.Proofs.YtkiilaajomjinaaGreatDoor

/-- An expression. -/
inductive Ex where
  | mk (kind op : Int) (name : ByteArray) (val : Int) (args : List Ex)

namespace Ex
def kind : Ex → Int | mk k _ _ _ _ => k
def op : Ex → Int | mk _ o _ _ _ => o
def name : Ex → ByteArray | mk _ _ n _ _ => n
def val : Ex → Int | mk _ _ _ v _ => v
def args : Ex → List Ex | mk _ _ _ _ a => a
end Ex

theorem Ex.ind {P : Ex → Prop} (h : ∀ (k o : Int) (n : ByteArray) (v : Int) (as : List Ex), (∀ a ∈ as, P a) → P (Ex.mk k o n v as)) : ∀ e : Ex, P e
  | .mk k o n v as => h k o n v as fun a _ => Ex.ind h a
termination_by e => SizeOf.sizeOf e
decreasing_by have := List.sizeOf_lt_of_mem ‹a ∈ as›; simp; omega

mutual
/-- The number of parts. -/
def nP : Ex → Nat | .mk _ _ _ _ as => nPL as + 1
def nPL : List Ex → Nat | [] => 0 | a :: as => nP a + nPL as
end
mutual
/-- The depth. -/
def dP : Ex → Nat | .mk _ _ _ _ as => dPL as + 1
def dPL : List Ex → Nat | [] => 0 | a :: as => max (dP a) (dPL as)
end
mutual
/-- The parts in preorder. -/
def pre : Ex → List Ex | .mk k o n v as => .mk k o n v as :: preL as
def preL : List Ex → List Ex | [] => [] | a :: as => pre a ++ preL as
end
theorem nP_pos (e : Ex) : 1 ≤ nP e := by cases e; simp [nP]
theorem dP_pos (e : Ex) : 1 ≤ dP e := by cases e; simp [dP]
theorem nPL_append : ∀ l m : List Ex, nPL (l ++ m) = nPL l + nPL m
  | [], m => by simp [nPL]
  | a :: l, m => by simp only [List.cons_append, nPL, nPL_append l m]; omega
theorem dPL_append : ∀ l m : List Ex, dPL (l ++ m) = max (dPL l) (dPL m)
  | [], m => by simp [dPL]
  | a :: l, m => by simp only [List.cons_append, dPL, dPL_append l m]; omega
theorem preL_append : ∀ l m : List Ex, preL (l ++ m) = preL l ++ preL m
  | [], m => by simp [preL]
  | a :: l, m => by simp [preL, preL_append l m]
theorem nP_take (l : List Ex) (k : Nat) (h : k < l.length) : nPL (l.take (k + 1)) = nPL (l.take k) + nP l[k] := by
  rw [List.take_add_one, List.getElem?_eq_getElem h, nPL_append]; simp [nPL]
theorem dP_take (l : List Ex) (k : Nat) (h : k < l.length) : dPL (l.take (k + 1)) = max (dPL (l.take k)) (dP l[k]) := by
  rw [List.take_add_one, List.getElem?_eq_getElem h, dPL_append]; simp [dPL]
theorem pre_take (l : List Ex) (k : Nat) (h : k < l.length) : preL (l.take (k + 1)) = preL (l.take k) ++ pre l[k] := by
  rw [List.take_add_one, List.getElem?_eq_getElem h, preL_append]; simp [preL]
theorem nPL_take_le (l : List Ex) (k : Nat) : nPL (l.take k) ≤ nPL l := by
  have := nPL_append (l.take k) (l.drop k)
  rw [List.take_append_drop] at this; omega
theorem nP_le_mem {l : List Ex} {a : Ex} (h : a ∈ l) : nP a ≤ nPL l := by
  induction l with
  | nil => cases h
  | cons b l ih =>
    simp only [nPL]
    rcases List.mem_cons.1 h with rfl | h
    · omega
    · have := ih h; omega
theorem dP_le_mem {l : List Ex} {a : Ex} (h : a ∈ l) : dP a ≤ dPL l := by
  induction l with
  | nil => cases h
  | cons b l ih =>
    simp only [dPL]
    rcases List.mem_cons.1 h with rfl | h
    · omega
    · have := ih h; omega
theorem dP_le_nP : ∀ e : Ex, dP e ≤ nP e := by
  intro e
  induction e using Ex.ind with
  | h k o n v as ih =>
    simp only [dP, nP]
    have : dPL as ≤ nPL as := by
      clear k o n v
      induction as with
      | nil => simp [dPL]
      | cons a as ih2 =>
        simp only [dPL, nPL]
        have h1 := ih a (by simp)
        have h2 := ih2 (fun b hb => ih b (by simp [hb]))
        omega
    omega
theorem len_le_nPL (l : List Ex) : l.length ≤ nPL l := by
  induction l with
  | nil => simp
  | cons a l ih => simp only [nPL, List.length_cons]; have := nP_pos a; omega
theorem mem_pre_self (e : Ex) : e ∈ pre e := by cases e; simp [pre]
theorem mem_preL {l : List Ex} {a x : Ex} (ha : a ∈ l) (hx : x ∈ pre a) : x ∈ preL l := by
  induction l with
  | nil => cases ha
  | cons b l ih =>
    simp only [preL, List.mem_append]
    rcases List.mem_cons.1 ha with rfl | h
    · exact .inl hx
    · exact .inr (ih h)
theorem mem_pre_arg {k o : Int} {n : ByteArray} {v : Int} {as : List Ex} {a x : Ex} (ha : a ∈ as) (hx : x ∈ pre a) : x ∈ pre (.mk k o n v as) := by
  simp only [pre, List.mem_cons]; exact .inr (mem_preL ha hx)

/-- A small letter; a byte of a name. -/
def letB (c : UInt8) : Bool := 97 ≤ c.toNat && c.toNat ≤ 122
def digB (c : UInt8) : Bool := 48 ≤ c.toNat && c.toNat ≤ 57
def inB (c : UInt8) : Bool := letB c || digB c || c.toNat == 95
/-- Whether a text is a name. -/
def nmL (s : List UInt8) : Bool := 1 ≤ s.length && s.length ≤ 30 && (match s with | [] => false | c :: _ => letB c) && s.all inB
def nmB (s : ByteArray) : Bool := nmL s.data.toList

/-- How many arguments a kind has. -/
def argsN (k : Int) : Nat := if k = 3 then 1 else if k = 4 then 2 else 0
/-- Why a part is not valid, apart from its arguments. -/
def chk1 (e : Ex) : Nat :=
  if e.kind < 1 ∨ 4 < e.kind then 8
  else if (e.kind ≠ 1 ∧ e.val ≠ 0) ∨ (e.kind ≠ 2 ∧ e.name.size ≠ 0) ∨ ((e.kind = 1 ∨ e.kind = 2) ∧ e.op ≠ 0) ∨ e.args.length ≠ argsN e.kind then 1
  else if e.kind = 1 ∧ (e.val < 0 ∨ 1099511627776 < e.val) then 2
  else if e.kind = 2 ∧ nmB e.name = false then 5
  else if (e.kind = 3 ∧ e.op ≠ 1 ∧ e.op ≠ 2) ∨ (e.kind = 4 ∧ (e.op < 3 ∨ 15 < e.op)) then 8
  else 0
/-- The first error of a list of parts. -/
def chkL : List Ex → Nat
  | [] => 0
  | a :: l => if chk1 a = 0 then chkL l else chk1 a
theorem chkL_append (l m : List Ex) : chkL (l ++ m) = if chkL l = 0 then chkL m else chkL l := by
  induction l with
  | nil => simp [chkL]
  | cons a l ih =>
    simp only [List.cons_append, chkL]
    by_cases h : chk1 a = 0
    · simp only [h, if_true]; exact ih
    · simp only [h, if_false]
theorem chkL_zero {l : List Ex} (h : chkL l = 0) : ∀ a ∈ l, chk1 a = 0 := by
  induction l with
  | nil => intro a ha; cases ha
  | cons b l ih =>
    simp only [chkL] at h
    by_cases hb : chk1 b = 0
    · rw [if_pos hb] at h
      intro a ha
      rcases List.mem_cons.1 ha with rfl | ha
      · exact hb
      · exact ih h a ha
    · rw [if_neg hb] at h; exact absurd h hb
/-- Why an expression is not valid. -/
def chkE (e : Ex) : Nat := if 100 < nP e then 4 else if 12 < dP e then 22 else chkL (pre e)
/-- All parts are valid. -/
def Good (e : Ex) : Prop := ∀ x ∈ pre e, chk1 x = 0
theorem good_of (e : Ex) (h : chkE e = 0) : Good e ∧ nP e ≤ 100 ∧ dP e ≤ 12 := by
  unfold chkE at h
  by_cases h1 : 100 < nP e
  · rw [if_pos h1] at h; cases h
  · rw [if_neg h1] at h
    by_cases h2 : 12 < dP e
    · rw [if_pos h2] at h; cases h
    · rw [if_neg h2] at h
      exact ⟨chkL_zero h, by omega, by omega⟩
theorem Good.arg {k o : Int} {n : ByteArray} {v : Int} {as : List Ex} (h : Good (.mk k o n v as)) {a : Ex} (ha : a ∈ as) : Good a :=
  fun x hx => h x (mem_pre_arg ha hx)
theorem Good.self {e : Ex} (h : Good e) : chk1 e = 0 := h e (mem_pre_self e)

/-- What chk1 says of a valid part. -/
structure Part (e : Ex) : Prop where
  lo : 1 ≤ e.kind
  hi : e.kind ≤ 4
  val : e.kind ≠ 1 → e.val = 0
  name : e.kind ≠ 2 → e.name.size = 0
  op : e.kind = 1 ∨ e.kind = 2 → e.op = 0
  len : e.args.length = argsN e.kind
  range : e.kind = 1 → 0 ≤ e.val ∧ e.val ≤ 1099511627776
  nm : e.kind = 2 → nmB e.name = true
  un : e.kind = 3 → e.op = 1 ∨ e.op = 2
  bin : e.kind = 4 → 3 ≤ e.op ∧ e.op ≤ 15
theorem part_of {e : Ex} (h : chk1 e = 0) : Part e := by
  unfold chk1 at h
  by_cases h1 : e.kind < 1 ∨ 4 < e.kind
  · rw [if_pos h1] at h; cases h
  rw [if_neg h1] at h
  by_cases h2 : (e.kind ≠ 1 ∧ e.val ≠ 0) ∨ (e.kind ≠ 2 ∧ e.name.size ≠ 0) ∨ ((e.kind = 1 ∨ e.kind = 2) ∧ e.op ≠ 0) ∨ e.args.length ≠ argsN e.kind
  · rw [if_pos h2] at h; cases h
  rw [if_neg h2] at h
  by_cases h3 : e.kind = 1 ∧ (e.val < 0 ∨ 1099511627776 < e.val)
  · rw [if_pos h3] at h; cases h
  rw [if_neg h3] at h
  by_cases h4 : e.kind = 2 ∧ nmB e.name = false
  · rw [if_pos h4] at h; cases h
  rw [if_neg h4] at h
  by_cases h5 : (e.kind = 3 ∧ e.op ≠ 1 ∧ e.op ≠ 2) ∨ (e.kind = 4 ∧ (e.op < 3 ∨ 15 < e.op))
  · rw [if_pos h5] at h; cases h
  have h2' := not_or.1 h2
  have h2'' := not_or.1 h2'.2
  have h2''' := not_or.1 h2''.2
  refine ⟨by omega, by omega, fun hk => Decidable.byContradiction fun hv => h2'.1 ⟨hk, hv⟩, fun hk => Decidable.byContradiction fun hv => h2''.1 ⟨hk, hv⟩, fun hk => Decidable.byContradiction fun hv => h2'''.1 ⟨hk, hv⟩, Decidable.byContradiction h2'''.2, fun hk => by omega, fun hk => ?_, fun hk => by omega, fun hk => by omega⟩
  cases hn : nmB e.name
  · exact absurd ⟨hk, hn⟩ h4
  · rfl

/-- A binding. -/
structure Bd where
  name : ByteArray
  ty : Int
  val : Int
def findB (l : List Bd) (n : ByteArray) : Option Bd := l.find? fun b => b.name == n

/-- Argument type and result type of an operator with two arguments. -/
def opArg (o : Int) : Int := if o = 8 ∨ o = 9 then 0 else if o = 14 ∨ o = 15 then 2 else 1
def opRes (o : Int) : Int := if o ≤ 7 then 1 else 2
/-- An answer: a number, or an error. -/
inductive Ans where
  | ok (n : Int)
  | er (f : Nat)
def Ans.n : Ans → Int | .ok n => n | .er _ => 0
def Ans.f : Ans → Nat | .ok _ => 0 | .er f => f
/-- The type of a part, from those of its arguments. -/
def typ1 (l : List Bd) (k o : Int) (n : ByteArray) (ts : List Int) : Ans :=
  if k = 1 then .ok 1
  else if k = 2 then (match findB l n with | none => .er 7 | some b => .ok b.ty)
  else if k = 3 then (if ts.getD 0 0 = (if o = 2 then 2 else 1) then .ok (if o = 2 then 2 else 1) else .er 15)
  else if ts.getD 0 0 ≠ ts.getD 1 0 ∨ (opArg o ≠ 0 ∧ ts.getD 0 0 ≠ opArg o) then .er 15 else .ok (opRes o)
/-- Answers of a list, or the first error. -/
inductive AnsL where
  | ok (l : List Int)
  | er (f : Nat)
def AnsL.push : AnsL → Ans → AnsL
  | .er f, _ => .er f
  | .ok _, .er f => .er f
  | .ok l, .ok n => .ok (l ++ [n])
mutual
def typE (l : List Bd) : Ex → Ans
  | .mk k o n _ as => match typL l (.ok []) as with
    | .er f => .er f
    | .ok ts => typ1 l k o n ts
def typL (l : List Bd) (acc : AnsL) : List Ex → AnsL
  | [] => acc
  | a :: as => typL l (acc.push (typE l a)) as
end
def oneI (b : Bool) : Int := if b then 1 else 0
/-- The value of an operator. -/
def opV (o a b : Int) : Ans :=
  if o = 3 then .ok (a + b) else if o = 4 then .ok (a - b)
  else if o = 5 then (if b ≠ 0 ∧ 1099511627776 / b.natAbs < (a.natAbs : Int) then .er 14 else .ok (a * b))
  else if o = 6 then (if b = 0 then .er 24 else .ok (a.tdiv b))
  else if o = 7 then (if b = 0 then .er 24 else .ok (a.tmod b))
  else if o = 8 then .ok (oneI (decide (a = b))) else if o = 9 then .ok (oneI (decide (a ≠ b)))
  else if o = 10 then .ok (oneI (decide (a < b))) else if o = 11 then .ok (oneI (decide (a ≤ b)))
  else if o = 12 then .ok (oneI (decide (b < a))) else if o = 13 then .ok (oneI (decide (b ≤ a)))
  else if o = 14 then .ok (oneI (decide (a ≠ 0 ∧ b ≠ 0))) else .ok (oneI (decide (a ≠ 0 ∨ b ≠ 0)))
def capA : Ans → Ans
  | .er f => .er f
  | .ok n => if 1099511627776 < n.natAbs then .er 14 else .ok n
def val1 (l : List Bd) (k o : Int) (n : ByteArray) (v : Int) (vs : List Int) : Ans :=
  capA (if k = 1 then .ok v
    else if k = 2 then .ok (match findB l n with | none => 0 | some b => b.val)
    else if k = 3 then (if o = 2 then .ok (1 - vs.getD 0 0) else .ok (- vs.getD 0 0))
    else opV o (vs.getD 0 0) (vs.getD 1 0))
mutual
def valE (l : List Bd) : Ex → Ans
  | .mk k o n v as => match valL l (.ok []) as with
    | .er f => .er f
    | .ok vs => val1 l k o n v vs
def valL (l : List Bd) (acc : AnsL) : List Ex → AnsL
  | [] => acc
  | a :: as => valL l (acc.push (valE l a)) as
end
/-- Type, over bindings that are valid. -/
def typeE (l : List Bd) (e : Ex) : Ans := if chkE e = 0 then typE l e else .er (chkE e)
/-- Eval, over bindings that are valid. -/
def evalE (l : List Bd) (e : Ex) : Ans := match typeE l e with | .er f => .er f | .ok _ => valE l e
section
variable (l : List Bd)
theorem typL_append : ∀ (as bs : List Ex) (acc : AnsL), typL l acc (as ++ bs) = typL l (typL l acc as) bs
  | [], _, _ => by simp [typL]
  | a :: as, bs, acc => by simp only [List.cons_append, typL]; exact typL_append as bs _
theorem typL_er (f : Nat) : ∀ as : List Ex, typL l (.er f) as = .er f
  | [] => by simp [typL]
  | a :: as => by simp only [typL, AnsL.push]; exact typL_er f as
theorem typL_take (as : List Ex) (k : Nat) (h : k < as.length) : typL l (.ok []) (as.take (k + 1)) = (typL l (.ok []) (as.take k)).push (typE l as[k]) := by
  rw [List.take_add_one, List.getElem?_eq_getElem h, typL_append]; simp [typL]
theorem typL_len : ∀ (as : List Ex) (acc ts : List Int), typL l (.ok acc) as = .ok ts → ts.length = acc.length + as.length
  | [], acc, ts, h => by simp only [typL, AnsL.ok.injEq] at h; subst h; simp
  | a :: as, acc, ts, h => by
    simp only [typL] at h
    cases e : typE l a with
    | er f => rw [e] at h; simp only [AnsL.push] at h; rw [typL_er] at h; cases h
    | ok n => rw [e] at h; simp only [AnsL.push] at h; have := typL_len as _ _ h; simp at this ⊢; omega
theorem typL_split (as : List Ex) (k f : Nat) (h : k < as.length) (ts : List Int) (h1 : typL l (.ok []) (as.take k) = .ok ts) (h2 : typE l as[k] = .er f) : typL l (.ok []) as = .er f := by
  have e : as = as.take (k + 1) ++ as.drop (k + 1) := (List.take_append_drop _ _).symm
  rw [e, typL_append, typL_take l as k h, h1, h2]
  simp only [AnsL.push]
  exact typL_er l f _
theorem typE_mk (k o : Int) (n : ByteArray) (v : Int) (as : List Ex) : typE l (.mk k o n v as) = match typL l (.ok []) as with | .er f => .er f | .ok ts => typ1 l k o n ts := by simp only [typE]
theorem valL_append : ∀ (as bs : List Ex) (acc : AnsL), valL l acc (as ++ bs) = valL l (valL l acc as) bs
  | [], _, _ => by simp [valL]
  | a :: as, bs, acc => by simp only [List.cons_append, valL]; exact valL_append as bs _
theorem valL_er (f : Nat) : ∀ as : List Ex, valL l (.er f) as = .er f
  | [] => by simp [valL]
  | a :: as => by simp only [valL, AnsL.push]; exact valL_er f as
theorem valL_take (as : List Ex) (k : Nat) (h : k < as.length) : valL l (.ok []) (as.take (k + 1)) = (valL l (.ok []) (as.take k)).push (valE l as[k]) := by
  rw [List.take_add_one, List.getElem?_eq_getElem h, valL_append]; simp [valL]
theorem valL_len : ∀ (as : List Ex) (acc ts : List Int), valL l (.ok acc) as = .ok ts → ts.length = acc.length + as.length
  | [], acc, ts, h => by simp only [valL, AnsL.ok.injEq] at h; subst h; simp
  | a :: as, acc, ts, h => by
    simp only [valL] at h
    cases e : valE l a with
    | er f => rw [e] at h; simp only [AnsL.push] at h; rw [valL_er] at h; cases h
    | ok n => rw [e] at h; simp only [AnsL.push] at h; have := valL_len as _ _ h; simp at this ⊢; omega
theorem valL_split (as : List Ex) (k f : Nat) (h : k < as.length) (ts : List Int) (h1 : valL l (.ok []) (as.take k) = .ok ts) (h2 : valE l as[k] = .er f) : valL l (.ok []) as = .er f := by
  have e : as = as.take (k + 1) ++ as.drop (k + 1) := (List.take_append_drop _ _).symm
  rw [e, valL_append, valL_take l as k h, h1, h2]
  simp only [AnsL.push]
  exact valL_er l f _
theorem valE_mk (k o : Int) (n : ByteArray) (v : Int) (as : List Ex) : valE l (.mk k o n v as) = match valL l (.ok []) as with | .er f => .er f | .ok ts => val1 l k o n v ts := by simp only [valE]
theorem capA_bd {x : Ans} {n : Int} (h : capA x = .ok n) : x = .ok n ∧ n.natAbs ≤ 1099511627776 := by
  cases x with
  | er f => cases h
  | ok m =>
    simp only [capA] at h
    split at h
    · cases h
    · cases h; exact ⟨rfl, by omega⟩
theorem valE_bd (e : Ex) (n : Int) (h : valE l e = .ok n) : n.natAbs ≤ 1099511627776 := by
  obtain ⟨k, o, nm, v, as⟩ := e
  rw [valE_mk] at h
  cases e : valL l (.ok []) as with
  | er f => rw [e] at h; cases h
  | ok ts => rw [e] at h; exact (capA_bd h).2
theorem valL_bd : ∀ (as : List Ex) (acc ts : List Int), (∀ x ∈ acc, x.natAbs ≤ 1099511627776) → valL l (.ok acc) as = .ok ts → ∀ x ∈ ts, x.natAbs ≤ 1099511627776
  | [], acc, ts, h0, h => by simp only [valL, AnsL.ok.injEq] at h; subst h; exact h0
  | a :: as, acc, ts, h0, h => by
    simp only [valL] at h
    cases e : valE l a with
    | er f => rw [e] at h; simp only [AnsL.push] at h; rw [valL_er] at h; cases h
    | ok n =>
      rw [e] at h; simp only [AnsL.push] at h
      refine valL_bd as _ _ (fun x hx => ?_) h
      rcases List.mem_append.1 hx with hx | hx
      · exact h0 x hx
      · rw [List.mem_singleton.1 hx]; exact valE_bd l a n e
end
end Go.Proofs.YtkiilaajomjinaaGreatDoor
