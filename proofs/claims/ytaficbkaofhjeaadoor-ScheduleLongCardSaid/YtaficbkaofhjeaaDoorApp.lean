/- append onto a row of the call's own from a slice that reads as a list, nil and empty let in. Conditions: none. -/
import Derived.Test.YtaficbkaofhjeaaDoorBase
import Derived.Laws.AppendOwnNone
import Derived.Lib.AppendStr
import Derived.OwnWalkIn
namespace Go.Proofs.YtaficbkaofhjeaaDoor
open Go.RowKit

section
variable {P : Program}
theorem run_append_none_ (w : World) (base : Nat) (t ty e : TypeId) (i : TypeInfo) (size : Nat) (ht : P.underlying t = some (.slice e)) (hi : P.info? e = some i)
    (v : Value) (n : Nat) (xs : List Value) (hown : w.ownsRow base e size v n xs) (c : Nat) : (Builtin.append_ #[t, t] ty #[v, .slice none 0 c]).run P w = .ok v w := by
  rcases hown.2 with ⟨rfl, rfl⟩ | ⟨g, cap, cur, rfl, _, _, hnc, _⟩
  · simp [Builtin.append_, run_underlying ht, sizeOf, typeInfo, hi, Builtin.lenOf, Builtin.firstCells]
  · simp [Builtin.append_, run_underlying ht, sizeOf, typeInfo, hi, Builtin.lenOf, Builtin.firstCells, hnc, storeCells]

theorem run_append_rd (w : World) (base : Nat) (t ty e : TypeId) (i : TypeInfo) (z : Value) (size bytes : Nat) (ht : P.underlying t = some (.slice e)) (hi : P.info? e = some i) (hz : i.zero = some z)
    (hsize : i.size = size) (hby : i.bytes = bytes) (hzs : z.cells.size = size) (hsz : 0 < size)
    (v : Value) (n : Nat) (xs : List Value) (hown : w.ownsRow base e size v n xs)
    (B : Nat) (A : Option Addr) (m c : Nat) (news : List Value) (hr : Rd w B size A m news) (h1 : ∀ u ∈ news, u.oneCell' = true)
    (h63 : n + m ≤ maxLen) (hbytes : (n + m) * bytes ≤ 140737488355328) (hbase : base ≤ w.heap.size) :
    ∃ v' w', (Builtin.append_ #[t, t] ty #[v, .slice A m c]).run P w = .ok v' w' ∧ w'.ownsRow base e size v' (n + m) (xs ++ news) ∧ w.grownBy w' v.ownBlock ∧
      (v'.ownBlock = v.ownBlock ∨ v'.ownBlock = some w.heap.size) := by
  cases A with
  | none =>
    obtain rfl : m = 0 := by
      rcases hr.2 with h0 | ⟨b, o, h, _⟩
      · exact h0
      · cases h
    obtain rfl : news = [] := List.eq_nil_of_length_eq_zero (by simpa using hr.1)
    exact ⟨v, w, run_append_none_ w base t ty e i size ht hi v n xs hown c, by simpa using hown, World.grownBy.refl w _, .inl rfl⟩
  | some ad =>
    have hc : ∀ j u, news[j]? = some u → w.cell? (ad.add j) = some u := by
      rcases hr.2 with h0 | ⟨b, o, h, hb⟩
      · subst h0
        obtain rfl : news = [] := List.eq_nil_of_length_eq_zero (by simpa using hr.1)
        intro j u hu; simp at hu
      · cases h
        intro j u hu
        have := hb.2 j u hu
        by_cases h0 : j = 0
        · subst h0; simpa [Addr.add] using this
        · simpa [Addr.add, h0] using this
    obtain ⟨v', w', h2, h3, h4, _, h5⟩ := run_append_own_at (P := P) w base t ty e i z size bytes ht hi hz hsize hby hzs hsz v n xs hown ad m c news hr.1 hc h1 h63 hbytes hbase
    exact ⟨v', w', h2, h3, h4, h5⟩

theorem wpList_append_rd {ops : Array Oper} {rest : List Oper} {o : Oper} {a : Act} {w : World} {Q : Exit → Act → World → Prop} (hgd : o.guard = none) (s x : Operand) (t : TypeId)
    (ho : o.op = .call { callee := .builtin .append, args := #[s, x], argTypes := #[t, t] })
    (base : Nat) (e : TypeId) (i : TypeInfo) (z : Value) (size bytes : Nat) (ht : P.underlying t = some (.slice e)) (hi : P.info? e = some i) (hz : i.zero = some z)
    (hsize : i.size = size) (hby : i.bytes = bytes) (hzs : z.cells.size = size) (hsz : 0 < size)
    (v : Value) (n : Nat) (xs : List Value) (hs : a.eval s = v) (hown : w.ownsRow base e size v n xs)
    (B : Nat) (A : Option Addr) (m c : Nat) (news : List Value) (hx : a.eval x = .slice A m c) (hr : Rd w B size A m news) (h1 : ∀ u ∈ news, u.oneCell' = true)
    (h63 : n + m ≤ maxLen) (hbytes : (n + m) * bytes ≤ 140737488355328) (hbase : base ≤ w.heap.size)
    (h : ∀ v' w', w'.ownsRow base e size v' (n + m) (xs ++ news) → w.grownBy w' v.ownBlock → (v'.ownBlock = v.ownBlock ∨ v'.ownBlock = some w.heap.size) → wpList P ops Q rest (a.put o.dst v') w') : wpList P ops Q (o :: rest) a w := by
  refine wpList_plain hgd fun K hK => ?_
  obtain ⟨v', w', hrun, h2, h3, h4⟩ := run_append_rd (P := P) w base t o.type e i z size bytes ht hi hz hsize hby hzs hsz v n xs hown B A m c news hr h1 h63 hbytes hbase
  unfold Oper.wp execOp
  simp only [ho, resolve, invoke, builtin, Sem.run_bind, Sem.run_pure, Result.andThen_ok, List.map_toArray, List.map_cons, List.map_nil, hs, hx, hrun]
  exact hK _ _ (h v' w' h2 h3 h4)
end

/-- An owned row's value, written out. -/
theorem own_form {w : World} {base : Nat} {e : TypeId} {size : Nat} {v : Value} {n : Nat} {xs : List Value} (h : w.ownsRow base e size v n xs) : ∃ A c, v = .slice A n c := by
  rcases h.2 with ⟨rfl, rfl⟩ | ⟨g, cap, _, rfl, _⟩
  · exact ⟨_, _, rfl⟩
  · exact ⟨_, _, rfl⟩

/-- Bytes as cells. -/
def u8s (l : List UInt8) : List Value := l.map fun b => .int .u8 (b.toNat : Int)
theorem u8s_len (l : List UInt8) : (u8s l).length = l.length := by simp [u8s]
theorem u8s_append (l m : List UInt8) : u8s (l ++ m) = u8s l ++ u8s m := by simp [u8s]
theorem u8s_one (l : List UInt8) : ∀ u ∈ u8s l, u.oneCell' = true := by
  intro u hu
  simp only [u8s, List.mem_map] at hu
  obtain ⟨b, _, rfl⟩ := hu
  rfl
theorem u8s_at (l : List UInt8) (k : Nat) (h : k < l.length) : (u8s l)[k]? = some (.int .u8 ((l[k]).toNat : Int)) := by simp [u8s, h]
/-- Integers as cells. -/
def i64s (l : List Int) : List Value := l.map (.int .i64)
theorem i64s_len (l : List Int) : (i64s l).length = l.length := by simp [i64s]
theorem i64s_append (l m : List Int) : i64s (l ++ m) = i64s l ++ i64s m := by simp [i64s]
theorem i64s_one (l : List Int) : ∀ u ∈ i64s l, u.oneCell' = true := by
  intro u hu
  simp only [i64s, List.mem_map] at hu
  obtain ⟨b, _, rfl⟩ := hu
  rfl
theorem i64s_at (l : List Int) (k : Nat) (h : k < l.length) : (i64s l)[k]? = some (.int .i64 l[k]) := by simp [i64s, h]

/-- v is a slice of bytes of the call's own, from block `base` on, that holds l. -/
def OwnB (w : World) (base e : Nat) (v : Value) (l : List UInt8) : Prop := w.ownsRow base e 1 v l.length (u8s l)
theorem str_of_u8 (l : List UInt8) : strOfNums (l.map fun b => (b.toNat : Int)) = ⟨l.toArray⟩ := by
  unfold strOfNums
  congr 2
  rw [List.map_map, List.map_congr_left (g := id) (fun b _ => by simp)]
  simp

theorem own_below {w w' : World} {base e : Nat} {v : Value} {l : List UInt8} (h : OwnB w base e v l) (hb : Below w.heap.size w w') : OwnB w' base e v l := by
  have h' : w.ownsRow base e 1 v l.length (u8s l) := h
  have hg : w.grownBy w' none := ⟨hb.os, hb.tape, hb.output, hb.size, fun k hk _ => hb.block k hk⟩
  rcases h'.2 with ⟨rfl, _⟩ | ⟨g, cap, cur, rfl, _⟩
  · exact World.ownsRow.kept h' hg (.inl rfl)
  · exact World.ownsRow.kept h' hg (.inr (by simp [Value.ownBlock]))
theorem own_of_eq {w : World} {base e n : Nat} {v : Value} {xs : List Value} {l : List UInt8} (hn : n = l.length) (hx : xs = u8s l) (h : w.ownsRow base e 1 v n xs) : OwnB w base e v l := by
  subst hn; subst hx; exact h
theorem run_convert_own {P : Program} {w : World} {base src e dst : Nat} {v : Value} {l : List UInt8} (hs : P.underlying src = some (.slice e)) (he : P.underlying e = some (.int .u8)) (hd : P.underlying dst = some .string)
    (h : OwnB w base e v l) : (convert src dst v).run P w = .ok (.string ⟨l.toArray⟩) w := by
  have h' : w.ownsRow base e 1 v l.length (u8s l) := h
  rcases h'.2 with ⟨rfl, h0⟩ | ⟨g, cap, cur, rfl, _⟩
  · obtain rfl : l = [] := List.eq_nil_of_length_eq_zero h0
    exact run_convert_bytes_nil w src e hs he 0 0 dst hd
  · rw [← str_of_u8]
    exact run_convert_bytes_arg w src e hs he g 0 l.length cap (l.map fun b => (b.toNat : Int)) (by simp) (fun i hi => by
      rw [Nat.zero_add, h'.cellAt i (by omega), u8s_at l i hi]; simp [hi]) dst hd

#print axioms wpList_append_rd
end Go.Proofs.YtaficbkaofhjeaaDoor
