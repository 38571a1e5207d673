/- The plain maths of the law of suspects: classes are disjoint, what lies outside of them has no ring, each has one; the search for distances. No conditions. · digraph's successors once more: rounds keep only what lies low. Conditions: the graph lies in memory. · math/bits.Mul64 and Mul at this dump: as the kit's lay-shelf and lay-plain print them. No conditions but the bounds. · slices.Repeat of one number, walked. Conditions: a count from 1 to 200. · A queue: a slice of numbers that is cut at its head and appended to. No conditions. -/
import Derived.Test.YtkpjdanfpolimaaGreatLsDgM
import Derived.Test.YtkpjdanfpolimaaGreatLsDg3
import Derived.Shelf.Bits.Mul64
import Derived.Test.YtkpjdanfpolimaaGreatProg
import Derived.Test.YtkpjdanfpolimaaGreatLsDg2
import Derived.Deep.RegionLaw
import Derived.Laws.CopyOwn
import Derived.Lib.SliceRun
import Derived.ArgAppend
import Derived.OwnWalkIn
import Derived.Test.YtkpjdanfpolimaaGreatLsSlice
set_option maxRecDepth 100000
set_option maxHeartbeats 3200000
section
namespace Go.Proofs.YtkpjdanfpolimaaGreat
/-- The member of class a at place b. -/
def at2 (cs : List (List Nat)) (a b : Nat) : Option Nat := (cs[a]?).bind (fun c => c[b]?)
theorem at2_some {cs : List (List Nat)} {a b x : Nat} : at2 cs a b = some x ↔ ∃ c, cs[a]? = some c ∧ c[b]? = some x := by
 unfold at2
 cases cs[a]? <;> simp
/-- No member stands twice. -/
def Dis (cs : List (List Nat)) : Prop := ∀ a b a' b' x, at2 cs a b = some x → at2 cs a' b' = some x → a = a' ∧ b = b'
theorem nodup_at {c : List Nat} (h : c.Nodup) {b b' x : Nat} (h1 : c[b]? = some x) (h2 : c[b']? = some x) : b = b' := by
 obtain ⟨i1, e1⟩ := List.getElem?_eq_some_iff.1 h1
 obtain ⟨i2, e2⟩ := List.getElem?_eq_some_iff.1 h2
 have f1 := h.idxOf_getElem b i1
 have f2 := h.idxOf_getElem b' i2
 rw [e1] at f1; rw [e2] at f2
 omega
theorem dis_of {cs : List (List Nat)} (h1 : cs.Pairwise (fun c d => ∀ x, x ∈ c → x ∉ d)) (h2 : ∀ c ∈ cs, c.Nodup) : Dis cs := by
 intro a b a' b' x h h'
 obtain ⟨c, hc, hb⟩ := at2_some.1 h
 obtain ⟨c', hc', hb'⟩ := at2_some.1 h'
 obtain ⟨i1, e1⟩ := List.getElem?_eq_some_iff.1 hc
 obtain ⟨i2, e2⟩ := List.getElem?_eq_some_iff.1 hc'
 have m1 := List.mem_of_getElem? hb
 have m2 := List.mem_of_getElem? hb'
 have hp := List.pairwise_iff_getElem.1 h1
 have ha : a = a' := by
  refine Classical.byContradiction fun hn => ?_
  by_cases hlt : a < a'
  ·exact hp a a' i1 i2 hlt x (by rw [e1]; exact m1) (by rw [e2]; exact m2)
  ·exact hp a' a i2 i1 (by omega) x (by rw [e2]; exact m2) (by rw [e1]; exact m1)
 subst ha
 rw [hc] at hc'
 injection hc' with hc'
 subst hc'
 exact ⟨rfl, nodup_at (h2 c (List.mem_of_getElem? hc)) hb hb'⟩
theorem class_nodup (n : Nat) (l : List (Nat × Nat)) (u : Nat) : (classOf n l u).Nodup := List.Pairwise.filter _ List.nodup_range
theorem comps_far (n : Nat) (l : List (Nat × Nat)) (j : Nat) : (compsTo n l j).Pairwise (fun c d => ∀ x, x ∈ c → x ∉ d) := by
 unfold compsTo
 rw [List.pairwise_map]
 refine List.Pairwise.imp_of_mem (fun {u w} hu hw h x h1 h2 => ?_) (List.Pairwise.filter (R := (· < ·)) _ List.pairwise_lt_range)
 have hl : ¬ Late l w := by have := (List.mem_filter.1 hw).2; simpa using this
 obtain ⟨-, a1, a2⟩ := mem_class.1 h1
 obtain ⟨-, b1, b2⟩ := mem_class.1 h2
 exact hl ⟨u, h, b1.trans a2, a1.trans b2⟩
theorem susp_dis (n : Nat) (l : List (Nat × Nat)) : Dis (suspects n l) := by
 refine dis_of ?_ fun c hc => ?_
 ·unfold suspects; exact (comps_far n l n).filter _
 ·obtain ⟨u, -, -, rfl⟩ := mem_comps.1 ((List.mem_filter.1 hc).1)
  exact class_nodup n l u
/-- What the map holds behind i classes and j members of the next one. -/
def Fil (cs : List (List Nat)) (i j : Nat) (f : Nat → Nat) : Prop :=
 ∀ x, (∃ a b, (a < i ∨ (a = i ∧ b < j)) ∧ at2 cs a b = some x ∧ f x = a + 1) ∨ (f x = 0 ∧ ∀ a b, (a < i ∨ (a = i ∧ b < j)) → at2 cs a b ≠ some x)
theorem Fil.zero (cs : List (List Nat)) : Fil cs 0 0 (fun _ => 0) := fun _ => .inr ⟨rfl, fun a b h => by omega⟩
theorem Fil.next {cs : List (List Nat)} {i j x : Nat} {f : Nat → Nat} (h : Fil cs i j f) (hd : Dis cs) (hx : at2 cs i j = some x) : f x = 0 ∧ Fil cs i (j + 1) (fun y => if y = x then i + 1 else f y) := by
 refine ⟨?_, fun y => ?_⟩
 ·rcases h x with ⟨a, b, h1, h2, -⟩ | h1
  ·have := hd a b i j x h2 hx; omega
  ·exact h1.1
 ·by_cases e : y = x
  ·subst e
   exact .inl ⟨i, j, .inr ⟨rfl, by omega⟩, hx, by simp⟩
  ·rcases h y with ⟨a, b, h1, h2, h3⟩ | ⟨h1, h2⟩
   ·exact .inl ⟨a, b, by omega, h2, by simp [e, h3]⟩
   ·refine .inr ⟨by simp [e, h1], fun a b hab hy => ?_⟩
    by_cases k : a = i ∧ b = j
    ·obtain ⟨rfl, rfl⟩ := k
     rw [hx] at hy; injection hy with hy; exact e hy.symm
    ·exact h2 a b (by omega) hy
theorem Fil.turn {cs : List (List Nat)} {i : Nat} {c : List Nat} {f : Nat → Nat} (h : Fil cs i c.length f) (hc : cs[i]? = some c) : Fil cs (i + 1) 0 f := by
 intro x
 rcases h x with ⟨a, b, h1, h2, h3⟩ | ⟨h1, h2⟩
 ·exact .inl ⟨a, b, by omega, h2, h3⟩
 ·refine .inr ⟨h1, fun a b hab hy => ?_⟩
  by_cases k : a = i
  ·subst k
   obtain ⟨d, hd, hb⟩ := at2_some.1 hy
   rw [hc] at hd; injection hd with hd; subst hd
   obtain ⟨hb', -⟩ := List.getElem?_eq_some_iff.1 hb
   exact h2 a b (.inr ⟨rfl, hb'⟩) hy
  ·exact h2 a b (by omega) hy
/-- The map's numbers once all classes are in. -/
def Full (cs : List (List Nat)) (f : Nat → Nat) : Prop := ∀ x a, f x = a + 1 ↔ ∃ c, cs[a]? = some c ∧ x ∈ c
theorem Fil.full {cs : List (List Nat)} {f : Nat → Nat} (h : Fil cs cs.length 0 f) (hd : Dis cs) : Full cs f := by
 intro x a
 constructor
 ·intro e
  rcases h x with ⟨a', b, -, h2, h3⟩ | ⟨h1, -⟩
  ·obtain ⟨c, hc, hb⟩ := at2_some.1 h2
   have : a' = a := by omega
   subst this
   exact ⟨c, hc, List.mem_of_getElem? hb⟩
  ·omega
 ·rintro ⟨c, hc, hm⟩
  obtain ⟨b, hb, eb⟩ := List.getElem_of_mem hm
  have h0 : at2 cs a b = some x := at2_some.2 ⟨c, hc, by rw [← eb]; exact List.getElem?_eq_getElem hb⟩
  obtain ⟨ha, -⟩ := List.getElem?_eq_some_iff.1 hc
  rcases h x with ⟨a', b', -, h2, h3⟩ | ⟨-, h2⟩
  ·have := hd a b a' b' x h0 h2; omega
  ·exact absurd h0 (h2 a b (.inl ha))
/-- Whether an edge lies within a class. -/
def inn (f : Nat → Nat) (e : Nat × Nat) : Bool := decide (f e.1 ≠ 0) && decide (f e.1 = f e.2)
def restE (f : Nat → Nat) (l : List (Nat × Nat)) : List (Nat × Nat) := l.filter (fun e => !inn f e)
def ownE (f : Nat → Nat) (i : Nat) (l : List (Nat × Nat)) : List (Nat × Nat) := l.filter (fun e => !(!inn f e || decide (f e.1 ≠ i + 1)))
theorem mem_ownE {f : Nat → Nat} {i : Nat} {l : List (Nat × Nat)} {e : Nat × Nat} : e ∈ ownE f i l ↔ e ∈ l ∧ f e.1 = i + 1 ∧ f e.2 = i + 1 := by
 unfold ownE inn
 rw [List.mem_filter]
 constructor
 ·rintro ⟨h1, h2⟩
  simp at h2
  obtain ⟨⟨h2, h3⟩, h4⟩ := h2
  exact ⟨h1, h4, by omega⟩
 ·rintro ⟨h1, h2, h3⟩
  exact ⟨h1, by simp [h2, h3]⟩
theorem Way.mono {l m : List (Nat × Nat)} (h : ∀ e ∈ l, e ∈ m) {u v : Nat} (k : Way l u v) : Way m u v := by
 induction k with
 | refl => exact Way.refl _
 | step _ e ih => exact ih.step (h _ e)
theorem EdR.sub {n : Nat} {l m : List (Nat × Nat)} (h : EdR n l) (hs : ∀ e ∈ m, e ∈ l) : EdR n m := fun e he => h e (hs e he)
theorem rest_sub (f : Nat → Nat) (l : List (Nat × Nat)) : ∀ e ∈ restE f l, e ∈ l := fun _ h => (List.mem_filter.1 h).1
theorem own_sub (f : Nat → Nat) (i : Nat) (l : List (Nat × Nat)) : ∀ e ∈ ownE f i l, e ∈ l := fun _ h => (List.mem_filter.1 h).1
/-- A ring's class is a suspect. -/
theorem ring_susp {n : Nat} {l : List (Nat × Nat)} (hr : EdR n l) {u v : Nat} (e : (u, v) ∈ l) (k : Way l v u) : ∃ c ∈ suspects n l, u ∈ c ∧ v ∈ c := by
 obtain ⟨w, h1, h2, h3, h4⟩ := least_class l u
 have hu := (hr _ e).1
 have hvn := (hr _ e).2
 have hw : w < n := by have : w ≤ u := h1; have : u < n := hu; omega
 refine ⟨classOf n l w, List.mem_filter.2 ⟨mem_comps.2 ⟨w, hw, h2, rfl⟩, ?_⟩, mem_class.2 ⟨hu, h4, h3⟩, mem_class.2 ⟨hvn, h4.step e, k.trans h3⟩⟩
 obtain ⟨r, hr1, hr2⟩ := class_head hw h2
 rw [hr1]
 unfold susp
 by_cases hwu : w = u
 ·subst hwu
  by_cases hvw : v = w
  ·subst hvw; simp [e]
  ·have : v ∈ r := (hr2 v).2 ⟨hvn, (Way.refl w).step e, k, hvw⟩
   have := List.length_pos_of_mem this
   simp; left; exact this
 ·have : u ∈ r := (hr2 u).2 ⟨hu, h4, h3, fun z => hwu z.symm⟩
  have := List.length_pos_of_mem this
  simp; left; exact this
theorem rest_noRing {n : Nat} {l : List (Nat × Nat)} (hr : EdR n l) {f : Nat → Nat} (hf : Full (suspects n l) f) : ¬ Ring n (restE f l) := by
 rintro ⟨u, v, hu, e, k⟩
 obtain ⟨c, hc, hcu, hcv⟩ := ring_susp hr (rest_sub f l _ e) (k.mono (rest_sub f l))
 obtain ⟨a, ha, ea⟩ := List.getElem_of_mem hc
 have hca : (suspects n l)[a]? = some c := by rw [← ea]; exact List.getElem?_eq_getElem ha
 have h1 : f u = a + 1 := (hf u a).2 ⟨c, hca, hcu⟩
 have h2 : f v = a + 1 := (hf v a).2 ⟨c, hca, hcv⟩
 have h3 := (List.mem_filter.1 e).2
 simp [inn, h1, h2] at h3
theorem rest_notStuck {n : Nat} {l : List (Nat × Nat)} (hr : EdR n l) {f : Nat → Nat} (hf : Full (suspects n l) f) : ¬ Stuck n (restE f l) := fun h => rest_noRing hr hf h.ring
/-- Ways between members of a class stay within it. -/
theorem way_own {n : Nat} {l : List (Nat × Nat)} (hr : EdR n l) {f : Nat → Nat} {i u : Nat} (hf : ∀ x, x < n → Way l u x → Way l x u → f x = i + 1) :
  ∀ {s x : Nat}, Way l s x → Way l u s → Way l x u → Way (ownE f i l) s x := by
 intro s x h
 induction h with
 | refl => exact fun _ _ => Way.refl _
 | @step y z hy e ih =>
  intro h1 h2
  have hyu : Way l y u := h2.head e
  have huy : Way l u y := h1.trans hy
  exact (ih h1 hyu).step (mem_ownE.2 ⟨e, hf y (hr _ e).1 huy hyu, hf z (hr _ e).2 (huy.step e) h2⟩)
theorem way_ring {n : Nat} {l : List (Nat × Nat)} (hr : EdR n l) {u : Nat} (hu : u < n) : ∀ {v}, Way l u v → v ≠ u → Way l v u → Ring n l := by
 intro v hw
 induction hw with
 | refl => intro z; exact absurd rfl z
 | @step a b hab e ih =>
  intro _ hb
  by_cases hx : a = u
  ·subst hx; exact ⟨a, b, hu, e, hb⟩
  ·exact ⟨a, b, (hr _ e).1, e, hb.trans hab⟩
theorem own_ring {n : Nat} {l : List (Nat × Nat)} (hr : EdR n l) {f : Nat → Nat} (hf : Full (suspects n l) f) {i : Nat} (hi : i < (suspects n l).length) : Ring n (ownE f i l) := by
 have hc : (suspects n l)[i]? = some (suspects n l)[i] := List.getElem?_eq_getElem hi
 generalize (suspects n l)[i] = c at hc
 have hm := List.mem_of_getElem? hc
 unfold suspects at hm
 obtain ⟨hm1, hs⟩ := List.mem_filter.1 hm
 obtain ⟨u, h1, h2, rfl⟩ := mem_comps.1 hm1
 obtain ⟨r, hr1, hr2⟩ := class_head h1 h2
 have hall : ∀ x, x < n → Way l u x → Way l x u → f x = i + 1 := fun x hx a b => (hf x i).2 ⟨_, hc, mem_class.2 ⟨hx, a, b⟩⟩
 rw [hr1] at hs
 unfold susp at hs
 rcases (Bool.or_eq_true _ _).mp hs with z | z
 ·cases r with
  | nil => simp at z
  | cons v s =>
   obtain ⟨k1, k2, k3, k4⟩ := (hr2 v).1 (by simp)
   exact way_ring (hr.sub (own_sub f i l)) h1 (way_own hr hall k2 (Way.refl u) k3) k4 (way_own hr hall k3 k2 (Way.refl u))
 ·have z : (u, u) ∈ l := by simpa using z
  have hfu := hall u h1 (Way.refl u) (Way.refl u)
  exact ⟨u, u, h1, mem_ownE.2 ⟨z, hfu, hfu⟩, Way.refl u⟩
/-! The search for distances. -/
/-- What the search keeps: q were enqueued, those before i are behind it, d are the distances. -/
structure Bfs (n : Nat) (l : List (Nat × Nat)) (tg : Nat) (q : List Nat) (i : Nat) (d : Nat → Int) : Prop where
 nodup : q.Nodup
 lt : ∀ v ∈ q, v < n
 on : ∀ v, v < n → (0 ≤ d v ↔ v ∈ q)
 lo : ∀ v, v < n → -1 ≤ d v
 hi : ∀ v, v < n → d v < q.length
 src : tg ∈ q
 shut : ∀ j v, j < i → q[j]? = some v → ∀ u, (u, v) ∈ l → u ∈ q
theorem Bfs.start {n : Nat} (l : List (Nat × Nat)) {tg : Nat} (h : tg < n) : Bfs n l tg [tg] 0 (fun v => if v = tg then 0 else -1) := by
 refine ⟨by simp, fun v hv => ?_, fun v _ => ?_, fun v _ => ?_, fun v _ => ?_, by simp, fun j v hj => by omega⟩
 ·have : v = tg := by simpa using hv
  subst this; exact h
 ·by_cases e : v = tg <;> simp [e]
 ·by_cases e : v = tg <;> simp [e]
 ·by_cases e : v = tg <;> simp [e]
theorem Bfs.len {n : Nat} {l : List (Nat × Nat)} {tg i : Nat} {q : List Nat} {d : Nat → Int} (h : Bfs n l tg q i d) : q.length ≤ n := len_le h.nodup h.lt
theorem Bfs.push {n : Nat} {l : List (Nat × Nat)} {tg i u v : Nat} {q : List Nat} {d : Nat → Int} (h : Bfs n l tg q i d) (hv : q[i]? = some v) (hu : u < n) (hd : d u < 0) :
  Bfs n l tg (q ++ [u]) i (fun x => if x = u then d v + 1 else d x) ∧ 0 ≤ d v ∧ d v < n := by
 have hvm := List.mem_of_getElem? hv
 have hvn := h.lt v hvm
 have hv0 := (h.on v hvn).2 hvm
 have hvq := h.hi v hvn
 have hql := h.len
 have hun : u ∉ q := fun k => by have := (h.on u hu).2 k; omega
 refine ⟨⟨?_, fun x hx => ?_, fun x hx => ?_, fun x hx => ?_, fun x hx => ?_, List.mem_append_left _ h.src, fun j x hj hx w hw => ?_⟩, hv0, by omega⟩
 ·rw [List.nodup_append]
  exact ⟨h.nodup, by simp, fun a ha b hb => by
   have : b = u := by simpa using hb
   subst this; intro e; subst e; exact hun ha⟩
 ·rcases List.mem_append.1 hx with k | k
  ·exact h.lt x k
  ·have : x = u := by simpa using k
   subst this; exact hu
 ·by_cases e : x = u
  ·subst e; simp; omega
  ·simp only [e, if_false, List.mem_append, List.mem_singleton, or_false]; exact h.on x hx
 ·by_cases e : x = u
  ·simp only [e, if_true]; omega
  ·simp only [e, if_false]; exact h.lo x hx
 ·rw [List.length_append, List.length_singleton]
  by_cases e : x = u
  ·simp only [e, if_true]; omega
  ·simp only [e, if_false]; have := h.hi x hx; omega
 ·have hil : i < q.length := (List.getElem?_eq_some_iff.1 hv).1
  rw [List.getElem?_append_left (by omega)] at hx
  exact List.mem_append_left _ (h.shut j x hj hx w hw)
theorem Bfs.pop {n : Nat} {l : List (Nat × Nat)} {tg i v : Nat} {q : List Nat} {d : Nat → Int} (h : Bfs n l tg q i d) (hv : q[i]? = some v) (hp : ∀ u, (u, v) ∈ l → u ∈ q) : Bfs n l tg q (i + 1) d := by
 refine ⟨h.nodup, h.lt, h.on, h.lo, h.hi, h.src, fun j x hj hx => ?_⟩
 by_cases e : j = i
 ·subst e
  rw [hv] at hx; injection hx with hx; subst hx
  exact hp
 ·exact h.shut j x (by omega) hx
theorem Bfs.cut {n : Nat} {l : List (Nat × Nat)} {tg i : Nat} {q : List Nat} {d : Nat → Int} (h : Bfs n l tg q i d) (hi : q.length ≤ i) : Bfs n l tg q q.length d :=
 ⟨h.nodup, h.lt, h.on, h.lo, h.hi, h.src, fun j x hj hx => h.shut j x (by omega) hx⟩
theorem Bfs.done {n : Nat} {l : List (Nat × Nat)} {tg : Nat} {q : List Nat} {d : Nat → Int} (h : Bfs n l tg q q.length d) {u : Nat} (k : Way l u tg) : 0 ≤ d u := by
 have key : ∀ {a b : Nat}, Way l a b → b ∈ q → a ∈ q := by
  intro a b w
  induction w with
  | refl => exact fun h => h
  | step _ e ih =>
   intro hm
   obtain ⟨j, hj, ej⟩ := List.getElem_of_mem hm
   exact ih (h.shut j _ hj (by rw [← ej]; exact List.getElem?_eq_getElem hj) _ e)
 have hm := key k h.src
 exact (h.on u (h.lt u hm)).2 hm
end Go.Proofs.YtkpjdanfpolimaaGreat
end
section
namespace Go.Proofs.YtkpjdanfpolimaaGreat
open Go.RowKit Go.Shelf
attribute [local go_sem] Oper.semAt_some
/-- What a round keeps: the cells below lo. -/
structure LowKept (lo : Nat) (A B : World) : Prop where
 size : A.heap.size ≤ B.heap.size
 cells : ∀ (k : Nat) (c : Array Value) (e : TypeId) (fr : Nat × Nat), k < lo → A.heap[k]? = some (.cells c e fr) → B.heap[k]? = some (.cells c e fr)
theorem LowKept.refl (lo : Nat) (A : World) : LowKept lo A A := ⟨Nat.le_refl _, fun _ _ _ _ _ h => h⟩
theorem LowKept.trans {lo : Nat} {A B C : World} (h : LowKept lo A B) (k : LowKept lo B C) : LowKept lo A C := ⟨Nat.le_trans h.size k.size, fun j c e fr hj hc => k.cells j c e fr hj (h.cells j c e fr hj hc)⟩
theorem LowKept.of_below {lo : Nat} {A B : World} (h : Below lo A B) : LowKept lo A B := ⟨h.size, fun k _ _ _ hk hc => (h.block k hk).trans hc⟩
theorem LowKept.putObj {lo : Nat} {W : World} {l : Nat} {o : Obj} (o' : Obj) (hl : W.heap[l]? = some o) (hc : o.isCells = false) : LowKept lo W (W.putObj l o') :=
 ⟨by simp, fun k _ _ _ _ hk2 => (World.putObj_heap_other (fun z => by subst z; rw [hl] at hk2; injection hk2 with hk2; subst hk2; cases hc)).trans hk2⟩
theorem LowKept.cell {lo : Nat} {A B : World} (h : LowKept lo A B) {b o : Nat} {v : Value} (ha : b < lo) (hc : A.cell? ⟨b, o, none⟩ = some v) : B.cell? ⟨b, o, none⟩ = some v := by
 obtain ⟨c, e, fr, hb, _⟩ := Go.Sort.cells_of_cell? hc
 have hb' := h.cells b c e fr ha hb
 simp only [World.cell?, hb, hb'] at hc ⊢
 exact hc
theorem succ1_low (m : Nat) (hm1 : 1 ≤ m) (lY : Nat) (lo n N : Nat) (l : List (Nat × Nat)) (b0 u : Nat) (hu : u < n) (hl : l.length ≤ 2000)
  (J Jx : List Nat → World → Prop)
  (hY : ∀ (pre : List Nat) (x : Nat) (W : World), J pre W → pre ++ [x] <+: succs l u → YieldAt Fence.wide (m - 1) Tryz.prog lY #[.int .i64 x] W fun e W' =>
   (e = .returned (.bool true) ∧ J (pre ++ [x]) W' ∧ LowKept lo W W') ∨ (e = .returned (.bool false) ∧ Jx (pre ++ [x]) W'))
  (W : World) (hm : SMem lo n N l b0 u W) (h0 : J [] W) :
  CallsIn Fence.wide m Tryz.prog 75 #[.func (.yield lY) #[] #[], .pointer (some ⟨b0, 0, none⟩), .pointer (some ⟨b0 + 1, 0, none⟩)] W fun e W' => (∃ v, e = .returned v) ∧
   ((∃ ys, ys = succs l u ∧ J ys W') ∨ (∃ pre, True ∧ Jx pre W')) := by
 obtain ⟨rA, rC, hrow⟩ := hm.net.2
 obtain ⟨c0, hn0⟩ := hrow u hu
 have x0 := hm.gb 0 _ rfl
 have x1 := hm.gb 1 _ rfl
 have y0 := hm.ub 0 _ rfl
 have hu0 : (0 : Int) ≤ (u : Int) := by omega
 have hu1 : (u : Int) < (n : Int) := by omega
 have hll := succs_len l u
 have hNN := hm.net.1
 refine callsIn_of_wp Tryz.func75 rfl trivial ?_ rfl
 simp only [Tryz.ntmps75, List.size_toArray, List.length_cons, List.length_nil, Nat.reduceAdd, Nat.reduceSub, Array.replicate_succ, Array.replicate_zero, List.push_toArray, List.append_toArray, List.nil_append, List.cons_append]
 generalize hls : succs l u = ls at c0 hn0 hll hY ⊢
 generalize rA u = A at c0 hn0
 clear hrow hm hls
 gi_wp2
 gi_loopw [5, 12] (fun _ j wr => ∃ k : Nat, j = .int .i64 (k : Nat) ∧ k ≤ ls.length ∧ J (ls.take k) wr ∧ Nts wr lo A ls) (fun _ j _ => ls.length - (intOf j).toNat)
 case atStart => exact ⟨0, rfl, by omega, h0, hn0⟩
 case round =>
  clear x0 x1 y0 c0 hn0 h0
  obtain ⟨k, rfl, hk, hj, hn⟩ := hrel
  have hk0 : (0 : Int) ≤ (k : Int) := by omega
  have hwr : IntKind.i64.wrap ((k : Int) + 1) = (k : Int) + 1 := by rw [IntKind.wrap_i64]; omega
  by_cases hlt : k < ls.length
  ·have hd1 : decide ((k : Int) < (ls.length : Int)) = true := decide_eq_true (by omega)
   have hd2 : decide (k < ls.length) = true := decide_eq_true hlt
   have hjl : (k : Int) < (ls.length : Int) := by omega
   obtain ⟨b, off, hA, hbl, hc⟩ := hn.at_ hlt
   have HN := Lib.hid hn
   clear hn
   subst hA
   have HTK := Lib.hid (show ls.take (k + 1) = ls.take k ++ [ls[k]] by rw [List.take_add_one, List.getElem?_eq_getElem hlt]; rfl)
   obtain ⟨fn, tmps, assign, body, hy2, hR2⟩ := hY (ls.take k) ls[k] wr hj (by rw [← HTK.out]; exact List.take_prefix _ _)
   gi_wp2
   refine hR2.mono ?_
   rintro e W3 (⟨rfl, hJ3, hk3⟩ | ⟨rfl, hJx3⟩)
   ·have hn3 : Nts W3 lo (some ⟨b, off, none⟩) ls := Rd.impl HN.out (fun _ _ _ hb' hc => hk3.cell hb' hc)
    gi_wp2
    exact ⟨⟨k + 1, rfl, by omega, by rw [HTK.out]; exact hJ3, hn3⟩, by simp [intOf]; omega⟩
   ·gi_wp2
    refine bodyPost_ret (results_none rfl _ _ _) rfl ?_
    exact ⟨⟨_, rfl⟩, .inr ⟨_, trivial, hJx3⟩⟩
  ·have hd1 : decide ((k : Int) < (ls.length : Int)) = false := decide_eq_false (by omega)
   have hd2 : decide (k < ls.length) = false := decide_eq_false hlt
   have hj2 : J ls wr := by rw [List.take_of_length_le (by omega)] at hj; exact hj
   gi_wp2
   go_end0
   exact ⟨⟨_, rfl⟩, .inl ⟨_, rfl, hj2⟩⟩
/-- successors' value as the range law takes it. -/
theorem succ_low (m : Nat) (hm1 : 1 ≤ m) (lo n N : Nat) (l : List (Nat × Nat)) (b0 u : Nat) (hlb : lo ≤ b0) (hu : u < n) (hl : l.length ≤ 2000) (w : World) (hm : SMem lo n N l b0 u w) (hb : b0 + 2 ≤ w.heap.size) :
  SeqAc Fence.wide m Tryz.prog 75 #[.pointer (some ⟨b0, 0, none⟩), .pointer (some ⟨b0 + 1, 0, none⟩)] (fun x : Nat => #[.int .i64 x]) (fun A B => A = B) (LowKept lo) (fun ys => ys = succs l u) (fun _ => True) (fun pre x => pre ++ [x] <+: succs l u) w := fun lY J Jx W hW _ hY h0 =>
 succ1_low m hm1 lY lo n N l b0 u hu hl J Jx hY W (hm.below hW hb (by omega)) h0
/-- The edges of the first i nodes, turned. -/
def flipTo (l : List (Nat × Nat)) (i : Nat) : List (Nat × Nat) := (List.range i).flatMap (fun u => (succs l u).map (fun v => (v, u)))
theorem flipTo_succ (l : List (Nat × Nat)) (i : Nat) : flipTo l (i + 1) = flipTo l i ++ (succs l i).map (fun v => (v, i)) := by simp [flipTo, List.range_succ]
theorem mem_flipTo {l : List (Nat × Nat)} {i u v : Nat} : (v, u) ∈ flipTo l i ↔ u < i ∧ (u, v) ∈ l := by
 unfold flipTo
 simp only [List.mem_flatMap, List.mem_range, List.mem_map]
 constructor
 ·rintro ⟨a, ha, b, hb, e⟩
  injection e with e1 e2
  subst e1; subst e2
  exact ⟨ha, mem_succs.1 hb⟩
 ·rintro ⟨h1, h2⟩
  exact ⟨u, h1, v, mem_succs.2 h2, rfl⟩
theorem flipTo_len (l : List (Nat × Nat)) : ∀ i, (flipTo l i).length ≤ i * l.length
 | 0 => by simp [flipTo]
 | i + 1 => by
  have := flipTo_len l i
  have := succs_len l i
  rw [flipTo_succ, List.length_append, List.length_map, Nat.succ_mul]; omega
end Go.Proofs.YtkpjdanfpolimaaGreat
end
section
namespace Go.Proofs
open Go.Shelf
def Tryz.lays264_ren : Go.Shelf.Ren := ⟨fun | 264 => 135 | n => n, fun | 53 => 173 | 46 => 150 | n => n, fun | n => n⟩
theorem Tryz.lays264 : Go.Proofs.Lays.n264 Tryz.prog Tryz.lays264_ren := {
 mixed := by kernel_rfl
 f264 := Tryz.func135.trans (congrArg some (by kernel_rfl))
 t46 := Tryz.underlying150
 a46 := Tryz.isAgg150
 z46 := Tryz.sizeOf150
 v46 := Tryz.zeroValue150
 t53 := Tryz.underlying173
 a53 := Tryz.isAgg173
 z53 := Tryz.sizeOf173
 v53 := Tryz.zeroValue173 }
open Go.RowKit Go.Lib in
theorem Tryz.bits_Mul64 (x y : Nat) (hx : x < 18446744073709551616) (hy : y < 18446744073709551616) (w : World) :
  Calls Tryz.prog 135 #[.int .u64 x, .int .u64 y] w fun e w' => e = .returned (.tuple #[.int .u64 ((x * y / 18446744073709551616 : Nat) : Int), .int .u64 ((x * y % 18446744073709551616 : Nat) : Int)]) ∧ w' = w := Any.bits_Mul64 Tryz.lays264 x y hx hy w
def Tryz.lays212_ren : Go.Shelf.Ren := ⟨fun | 212 => 118 | 263 => 134 | 264 => 135 | n => n, fun | 46 => 150 | 51 => 83 | 146 => 171 | 53 => 173 | 148 => 174 | n => n, fun | n => n⟩
theorem Tryz.lays212 : Go.Proofs.Lays.n212 Tryz.prog Tryz.lays212_ren := {
 mixed := by kernel_rfl
 f212 := Tryz.func118.trans (congrArg some (by kernel_rfl))
 f263 := Tryz.func134.trans (congrArg some (by kernel_rfl))
 f264 := Tryz.func135.trans (congrArg some (by kernel_rfl))
 t46 := Tryz.underlying150
 a46 := Tryz.isAgg150
 z46 := Tryz.sizeOf150
 v46 := Tryz.zeroValue150
 t51 := Tryz.underlying83
 a51 := Tryz.isAgg83
 z51 := Tryz.sizeOf83
 v51 := Tryz.zeroValue83
 t53 := Tryz.underlying173
 a53 := Tryz.isAgg173
 z53 := Tryz.sizeOf173
 v53 := Tryz.zeroValue173
 t146 := Tryz.underlying171
 a146 := Tryz.isAgg171
 z146 := Tryz.sizeOf171
 v146 := Tryz.zeroValue171
 t148 := Tryz.underlying174
 a148 := Tryz.isAgg174
 z148 := Tryz.sizeOf174
 v148 := Tryz.zeroValue174 }
open Go.RowKit Go.Lib in
/-- math/bits.Mul: "Mul returns the full-width product of x and y": on a machine of 64 bits: Mul64's. (LAID: no walk: one application.) -/
theorem Tryz.bits_Mul (x y : Nat) (hx : x < 18446744073709551616) (hy : y < 18446744073709551616) (w : World) :
  Calls Tryz.prog 118 #[.int .u64 x, .int .u64 y] w fun e w' => e = .returned (.tuple #[.int .u64 ((x * y / 18446744073709551616 : Nat) : Int), .int .u64 ((x * y % 18446744073709551616 : Nat) : Int)]) ∧ w' = w := Any.bits_Mul Tryz.lays212 x y hx hy w
end Go.Proofs
end
section
namespace Go.Proofs.YtkpjdanfpolimaaGreat
open Go.RowKit
/-- The new row when k places hold the number. -/
def rowK (n k : Nat) : List Value := List.replicate k (.int .i64 (-1)) ++ List.replicate (n - k) (.int .i64 0)
theorem rowK_len {n k : Nat} (h : k ≤ n) : (rowK n k).length = n := by simp [rowK]; omega
theorem rowK_splice {n k m : Nat} (h : k + m ≤ n) : splice (rowK n k) k (List.replicate m (.int .i64 (-1))) = rowK n (k + m) := by
 unfold splice rowK
 rw [List.take_left' (by simp), List.length_replicate, List.drop_append, List.length_replicate, List.drop_replicate, List.drop_replicate, ← List.append_assoc, List.replicate_append_replicate]
 rw [show k - (k + m) = 0 by omega, show n - k - (k + m - k) = n - (k + m) by omega]
 rfl
theorem rowK_cell {W : World} {g n k : Nat} {t : TypeId} (h : W.heap[g]? = some (.cells (rowK n k).toArray t (0, 0))) {j : Nat} (hj : j < k) : W.cell? ⟨g, j, none⟩ = some (.int .i64 (-1)) := by
 simp only [World.cell?, h]
 simp [rowK, List.getElem?_append, hj]
theorem rowK_zero (n : Nat) : (madeCells #[.int .i64 0] n) = (rowK n 0).toArray := by
 apply Array.toList_inj.1
 rw [toList_madeCells_one]
 simp [rowK]
theorem copy_rep (W : World) (g n k m : Nat) (a : Addr) (sLen sCap dLen dCap : Nat) (h : k + m ≤ n) (hm : m = Nat.min sLen dLen) (hg : W.heap[g]? = some (.cells (rowK n k).toArray 3 (0, 0))) (hc : ∀ j, j < m → W.cell? (a.add j) = some (.int .i64 (-1))) :
  ∃ W', (Builtin.copy_ #[27, 27] 3 #[.slice (some ⟨g, k, none⟩) dLen dCap, .slice (some a) sLen sCap]).run Tryz.prog W = .ok (.int .i64 (m : Nat)) W' ∧ W'.heap[g]? = some (.cells (rowK n (k + m)).toArray 3 (0, 0)) ∧ Below g W W' := by
 have hrun := run_copy_row (P := Tryz.prog) W 27 27 3 3 g k dLen dCap a sLen sCap (rowK n k).toArray 3 (List.replicate m (.int .i64 (-1))) Tryz.underlying27 (by kernel_rfl) hg (by rw [List.length_replicate]; exact hm)
  (fun j v hj => by
   obtain ⟨hj1, hj2⟩ := List.getElem?_eq_some_iff.1 hj
   rw [List.length_replicate] at hj1
   rw [List.getElem_replicate] at hj2
   rw [← hj2]; exact hc j hj1) (by rw [List.length_replicate]; simp [rowK_len (show k ≤ n by omega)]; omega) (fun v hv => by rw [List.eq_of_mem_replicate hv]; rfl)
 refine ⟨_, hrun.trans (by rw [List.length_replicate]; rfl), ?_, below_setRow (Below.refl g W) (Nat.le_refl _) _⟩
 rw [setRow_heap W g _ _ 3 _ hg]
 have := rowK_splice h
 unfold splice at this
 rw [List.length_replicate] at this
 rw [← this, List.append_assoc]
theorem rep_any (n : Nat) (h1 : 1 ≤ n) (hn : n ≤ 200) (b c : Nat) (w : World) (hb : b < w.heap.size) (hc : w.cell? ⟨b, 0, none⟩ = some (.int .i64 (-1))) :
  Calls Tryz.prog 94 #[.slice (some ⟨b, 0, none⟩) 1 c, .int .i64 n] w fun e W => e = .returned (.slice (some ⟨w.heap.size, 0, none⟩) n n) ∧ W.rowIs w.heap.size 3 n (fun _ => .int .i64 (-1)) ∧ Below w.heap.size w W := by
 have hmk := fun W => run_make_row' (P := Tryz.prog) 27 3 (.int .i64 0) 8 Tryz.underlying27 (by kernel_rfl) rfl .i64 .i64 n (by omega) (by omega) W
 have hsz : (Tryz.prog.info? 3).map (·.size) = some 1 := by kernel_rfl
 have HMU := Lib.hid (fun (W : World) => Tryz.bits_Mul 1 n (by omega) (by omega) W)
 have hn0 : ¬ ((n : Int) < 0) := by omega
 have hd0 : decide ((n : Int) < 0) = false := decide_eq_false hn0
 have hw1 : IntKind.u64.wrap (1 : Int) = 1 := by decide
 have hwn : IntKind.u64.wrap (n : Int) = (n : Int) := by rw [IntKind.wrap_u64]; omega
 go_enter Tryz.func94, Tryz.ntmps94
 go_wp2_with fail
 refine (HMU.out _).mono ?_
 rintro e w' ⟨rfl, rfl⟩
 have e1 : ((1 * n / 18446744073709551616 : Nat) : Int) = 0 := by omega
 have e2 : ((1 * n % 18446744073709551616 : Nat) : Int) = (n : Int) := by omega
 rw [e1, e2]
 clear e1 e2 HMU hw1 hwn
 have hwi : IntKind.i64.wrap (n : Int) = (n : Int) := by rw [IntKind.wrap_i64]; omega
 go_upto_region 7 with fail
 have hba := below_alloc w' (.cells (madeCells #[.int .i64 0] n) 3)
 have hR := heap_alloc_new w' (.cells (madeCells #[.int .i64 0] n) 3)
 rw [rowK_zero] at hR hba ⊢
 have hcb := (hba.cell hb).trans hc
 clear hmk hc
 generalize w'.alloc _ = wa at hba hR hcb ⊢
 generalize hRS : w'.heap.size = R at hR hb hba ⊢
 obtain ⟨w1, hcp, hR1, hb1⟩ := copy_rep wa R n 0 1 ⟨b, 0, none⟩ 1 c n n (by omega) (by simp [Nat.min_def]; omega) hR (fun j hj => by
  obtain rfl : j = 0 := by omega
  exact hcb)
 have hb1 := hba.trans (hb1.mono (Nat.le_refl _))
 clear hcb hR hba
 go_upto_region 8 with fail
 have hR1 : w1.heap[R]? = some (.cells (rowK n 1).toArray 3 (0, 0)) := by simpa using hR1
 clear hcp
 go_loopw [8] (fun s8 wr => ∃ k : Nat, s8 = .int .i64 (k : Nat) ∧ 1 ≤ k ∧ k ≤ n ∧ wr.heap[R]? = some (.cells (rowK n k).toArray 3 (0, 0)) ∧ Below R w' wr) (fun s8 _ => n - (intOf s8).toNat)
 case atStart => exact ⟨1, rfl, by omega, by omega, hR1, hb1⟩
 case round =>
  clear hR1 hb1
  obtain ⟨k, rfl, hk1, hkn, hRk, hbk⟩ := hrel
  by_cases hlt : k < n
  ·have hd1 : decide ((k : Int) < (n : Int)) = true := decide_eq_true (by omega)
   have hd2 : decide (k < n) = true := decide_eq_true hlt
   have hjl : (k : Int) < (n : Int) := by omega
   have hk0 : (0 : Int) ≤ (k : Int) := by omega
   have hm1 : 1 ≤ Nat.min k (n - k) := Nat.le_min.2 ⟨hk1, by omega⟩
   have hm2 : Nat.min k (n - k) ≤ n - k := Nat.min_le_right _ _
   have hm3 : Nat.min k (n - k) ≤ k := Nat.min_le_left _ _
   obtain ⟨w2, hcp, hR2, hb2⟩ := copy_rep wr.drew R n k (Nat.min k (n - k)) ⟨R, 0, none⟩ k n (n - k) (n - k) (by omega) rfl hRk (fun j hj => by
    have hj2 : j < k := by omega
    have := rowK_cell (W := wr) hRk hj2
    rw [Addr.add_lit, Nat.zero_add]
    exact this)
   generalize Nat.min k (n - k) = m at hcp hR2 hm1 hm2 hm3
   have hwr : IntKind.i64.wrap ((k : Int) + (m : Int)) = ((k + m : Nat) : Int) := by rw [IntKind.wrap_i64]; omega
   have hb3 := hbk.drew.trans hb2
   go_wp2_with fail
   go_region
   go_round
   case rel =>
    refine ⟨_, _, _, _, _, _, _, _, _, _, _, _, _, _, ⟨k + m, ?_, by omega, by omega, hR2, hb3⟩, rfl⟩
    rfl
   case measure => simp [intOf]; omega
  ·have hd1 : decide ((k : Int) < (n : Int)) = false := decide_eq_false (by omega)
   have hd2 : decide (k < n) = false := decide_eq_false hlt
   have hke : k = n := by omega
   subst hke
   go_wp2_with fail
   go_ret
   refine ⟨by rw [hRS]; rfl, ?_, ?_⟩
   ·rw [hRS]
    exact ⟨_, hRk, by simp [rowK_len], fun i hi => by simp [rowK, hi]⟩
   ·rw [hRS]; exact hbk
end Go.Proofs.YtkpjdanfpolimaaGreat
end
section
namespace Go.Proofs.YtkpjdanfpolimaaGreat
open Go.RowKit
/-- v is a slice, somewhere in a block from `base` on, that holds xs. -/
def Qs (base : Nat) (W : World) (v : Value) (xs : List Nat) : Prop :=
 ∃ (g o cap : Nat) (cur : Array Value), v = .slice (some ⟨g, o, none⟩) xs.length cap ∧ base ≤ g ∧ W.heap[g]? = some (.cells cur 3 (0, 0)) ∧ xs.length ≤ cap ∧ cap ≤ maxLen ∧ o + cap ≤ cur.size ∧ ∀ (j x : Nat), xs[j]? = some x → cur[o + j]? = some (.int .i64 (x : Int))
theorem Qs.own {base : Nat} {W : World} {v : Value} {xs : List Nat} (h : Qs base W v xs) : ∃ g, v.ownBlock = some g ∧ base ≤ g ∧ g < W.heap.size := by
 obtain ⟨g, o, cap, cur, rfl, hb, hg, -⟩ := h
 exact ⟨g, rfl, hb, (Array.getElem?_eq_some_iff.1 hg).1⟩
theorem Qs.kept {base : Nat} {W W' : World} {v : Value} {xs : List Nat} (h : Qs base W v xs) (hk : ∀ g, v.ownBlock = some g → W'.heap[g]? = W.heap[g]?) : Qs base W' v xs := by
 obtain ⟨g, o, cap, cur, rfl, hb, hg, h1⟩ := h
 exact ⟨g, o, cap, cur, rfl, hb, (hk g rfl).trans hg, h1⟩
theorem Qs.below {base : Nat} {W W' : World} {v : Value} {xs : List Nat} (h : Qs base W v xs) (hb : Below W.heap.size W W') : Qs base W' v xs :=
 h.kept fun g e => hb.block g (by obtain ⟨g', e', -, hl⟩ := h.own; rw [e] at e'; injection e' with e'; omega)
theorem addr_add1 (b o : Nat) : (⟨b, o, none⟩ : Addr).add 1 = ⟨b, o + 1, none⟩ := by simp [Addr.add]
theorem Qs.head {base : Nat} {W : World} {v : Value} {x : Nat} {xs : List Nat} (h : Qs base W v (x :: xs)) : ∃ g o cap, v = .slice (some ⟨g, o, none⟩) (xs.length + 1) (cap + 1) ∧ base ≤ g ∧ g < W.heap.size ∧ W.cell? ⟨g, o, none⟩ = some (.int .i64 (x : Int)) ∧
  ∃ cu, (∀ W, (Instr.slice 27 (.slice (some ⟨g, o, none⟩) (xs.length + 1) (cap + 1)) (some (.int .i64 1)) none none).run Tryz.prog W = .ok (.slice cu xs.length cap) W) ∧ Qs base W (.slice cu xs.length cap) xs := by
 obtain ⟨g, o, cap, cur, rfl, hb, hg, h1, h2, h3, h4⟩ := h
 rw [List.length_cons] at h1
 obtain ⟨cap, rfl⟩ : ∃ c, cap = c + 1 := ⟨cap - 1, by omega⟩
 refine ⟨g, o, cap, rfl, hb, (Array.getElem?_eq_some_iff.1 hg).1, ?_, cutAddr (some ⟨g, o, none⟩) (cap + 1) 1 1, fun W => run_slice_from (P := Tryz.prog) Tryz.underlying27 Tryz.sizeOf3 (some ⟨g, o, none⟩) (n := xs.length + 1) (cap := cap + 1) (l := 1) (by omega) .i64 W, ?_⟩
 ·have := h4 0 x rfl
  rw [Nat.add_zero] at this
  simp [World.cell?, hg, this]
 ·unfold cutAddr
  by_cases hc : cap = 0
  ·subst hc
   rw [if_pos rfl]
   have hx : xs = [] := List.length_eq_zero_iff.1 (by omega)
   subst hx
   exact ⟨g, o, 0, cur, rfl, hb, hg, by simp, by omega, by omega, fun j x hj => by simp at hj⟩
  ·rw [if_neg (by omega)]
   simp only [Option.map_some, Nat.mul_one, addr_add1]
   refine ⟨g, o + 1, cap, cur, rfl, hb, hg, by omega, by omega, by omega, fun j y hj => ?_⟩
   have := h4 (j + 1) y hj
   rw [show o + 1 + j = o + (j + 1) by omega]; exact this
theorem Qs.cons {base : Nat} {W : World} {v : Value} {x : Nat} {xs : List Nat} (h : Qs base W v (x :: xs)) : ∃ A n c, v = .slice A n c := by
 obtain ⟨g, o, cap, cur, rfl, -⟩ := h
 exact ⟨_, _, _, rfl⟩
theorem Qs.push {base : Nat} {W : World} {v : Value} {xs : List Nat} (h : Qs base W v xs) (hB : base ≤ W.heap.size) (y : Nat) (E c : Nat) (hE : W.cell? ⟨E, 0, none⟩ = some (.int .i64 (y : Int))) (hl : xs.length ≤ 1000) (ty : TypeId) :
  ∃ v' W', (Builtin.append_ #[27, 27] ty #[v, .slice (some ⟨E, 0, none⟩) 1 c]).run Tryz.prog W = .ok v' W' ∧ Qs base W' v' (xs ++ [y]) ∧ W.grownBy W' v.ownBlock ∧ (v'.ownBlock = v.ownBlock ∨ v'.ownBlock = some W.heap.size) := by
 obtain ⟨i0, hi, hz⟩ := Option.map_eq_some_iff.1 intInfo
 have hz0 : i0.zero = some (.int .i64 0) := congrArg (fun t => t.1) hz
 have hz1 : i0.size = 1 := congrArg (fun t => t.2.1) hz
 have hz2 : i0.bytes = 8 := congrArg (fun t => t.2.2) hz
 clear hz
 obtain ⟨g, o, cap, cur, rfl, hb, hg, h1, h2, h3, h4⟩ := h
 have hnews : ∀ j u, [Value.int .i64 (y : Int)][j]? = some u → W.cell? ((⟨E, 0, none⟩ : Addr).add j) = some u := fun j u hj => by
  cases j with
  | zero => injection hj with hj; subst hj; exact hE
  | succ j => cases hj
 by_cases hr : xs.length + 1 ≤ cap
 ·have hlt : o + xs.length < cur.size := by omega
  have hrun := run_append_room_cells (P := Tryz.prog) W 27 ty 3 i0 Tryz.underlying27 hi g o xs.length cap ⟨E, 0, none⟩ 1 c [.int .i64 (y : Int)] (by rw [hz1]; rfl) hnews (fun u hu => (List.mem_singleton.1 hu) ▸ rfl) hr
   (fun j hj => by
    obtain rfl : j = 0 := by simpa using hj
    rw [hz1]
    simp [World.cell?, hg, hlt]) (fun j _ => frozen_of_row W g _ cur 3 hg)
  rw [hz1, Nat.mul_one] at hrun
  have hs : W.setCells g (o + xs.length) [.int .i64 (y : Int)] = W.setCell ⟨g, o + xs.length, none⟩ (.int .i64 (y : Int)) := rfl
  rw [hs] at hrun
  refine ⟨_, _, hrun, ⟨g, o, cap, cur.setIfInBounds (o + xs.length) (.int .i64 (y : Int)), by rw [List.length_append]; rfl, hb, heap_setCell_same W g _ cur _ _ hg, by rw [List.length_append]; exact hr, h2, by simpa using h3, fun j x hj => ?_⟩, ⟨rfl, rfl, rfl, by simp, fun k _ hk => heap_setCell_other W _ k _ (fun e => hk (by rw [e]; rfl))⟩, .inl rfl⟩
  by_cases e : j < xs.length
  ·rw [List.getElem?_append_left e] at hj
   rw [Array.getElem?_setIfInBounds, if_neg (by omega)]
   exact h4 j x hj
  ·rw [List.getElem?_append_right (by omega)] at hj
   have e2 : j - xs.length = 0 := by
    have := (List.getElem?_eq_some_iff.1 hj).1
    rw [List.length_singleton] at this; omega
   rw [e2] at hj
   injection hj with hj
   subst hj
   have e3 : j = xs.length := by omega
   subst e3
   rw [Array.getElem?_setIfInBounds, if_pos rfl, if_pos hlt]
 ·have holds : ∀ j u, (natC xs)[j]? = some u → W.cell? ((⟨g, o, none⟩ : Addr).add j) = some u := fun j u hj => by
   simp only [natC, List.getElem?_map, Option.map_eq_some_iff] at hj
   obtain ⟨x, hx, rfl⟩ := hj
   rw [Addr.add_lit]
   simp [World.cell?, hg, h4 j x hx]
  have hcl : xs.length = cap := by omega
  have hrun := run_append_grow (P := Tryz.prog) W 27 ty 3 i0 (.int .i64 0) Tryz.underlying27 hi hz0 ⟨g, o, none⟩ xs.length cap (natC xs) (by rw [hz1]; simp [natC]) holds ⟨E, 0, none⟩ 1 c [.int .i64 (y : Int)] (by rw [hz1]; rfl) hnews (by omega) (by omega) (growslice_fits (by omega) (by rw [hz2]; omega))
  have hge := grownCap_ge W (xs.length + 1) cap 3
  have hcm := grownCap_le_maxLen W (xs.length + 1) cap 3 (by unfold maxLen; omega)
  generalize grownCap W (xs.length + 1) cap 3 = nc at hrun hge hcm
  refine ⟨_, _, hrun, ⟨W.heap.size, 0, nc, _, by rw [List.length_append]; rfl, hB, heap_alloc_new W.drew _, by rw [List.length_append]; exact hge, hcm, ?_, fun j x hj => ?_⟩, ⟨rfl, rfl, rfl, by simp, fun k hk _ => heap_alloc_old W.drew _ hk⟩, .inr rfl⟩
  ·simp only [Array.size_append, List.size_toArray, size_zeroCells, natC, List.length_map, List.length_singleton]
   show 0 + nc ≤ xs.length + 1 + (nc - (xs.length + 1)) * 1
   omega
  ·have e : (natC xs).toArray ++ [Value.int .i64 (y : Int)].toArray = (natC (xs ++ [y])).toArray := by rw [natC_push]; simp
   have hjl := (List.getElem?_eq_some_iff.1 hj).1
   rw [e, Array.getElem?_append_left (by simp [natC] at hjl ⊢; omega), Nat.zero_add]
   simp only [natC, List.getElem?_toArray, List.getElem?_map, hj, Option.map_some]
theorem wpListIn_app {F : Fence} {n : Nat} {P : Program} {w w' : World} {ops : Array Oper} {rest : List Oper} {o : Oper} {a : Act} {Q : Exit → Act → World → Prop} {v y v' : Value}
  (hg : o.guard = none) (s x : Operand) (t : TypeId) (hop : o.op = Op.call { callee := Callee.builtin Builtin.append, args := #[s, x], argTypes := #[t, t] }) (hs : a.eval s = v) (hx : a.eval x = y)
  (hrun : (Builtin.append_ #[t, t] o.type #[v, y]).run P w = .ok v' w') (hK : wpListIn F n P ops Q rest (a.put o.dst v') w') : wpListIn F n P ops Q (o :: rest) a w := by
 refine wpListIn_plain hg fun K hK' => ?_
 unfold Oper.wpIn
 refine ⟨?_, ?_⟩
 ·simp [Oper.about, hop, resolve, Target.leads, Sem.run_pure]
 ·rw [Oper.semAt_plain F _ _ (by rw [hop]; intro c hc'; cases hc')]
  simp [execOp, hop, resolve, invoke, builtin, hs, hx, hrun, Result.andThen]
  exact hK' _ _ hK
end Go.Proofs.YtkpjdanfpolimaaGreat
end
