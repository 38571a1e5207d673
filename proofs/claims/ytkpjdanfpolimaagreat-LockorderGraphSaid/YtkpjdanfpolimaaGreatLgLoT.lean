/- The lock analysis in plain Lean: it comes to an end. Conditions: the program is well-forme · The analysis' sets hold locks alone: what they name are objects that are locks. Conditions · The lock analysis in plain Lean: it is the least state -/
import Derived.Test.YtkpjdanfpolimaaGreatLgLoIs
set_option maxRecDepth 100000
namespace Go.Proofs.YtkpjdanfpolimaaGreat
section
open Go.RowKit Go.Shelf
def vNat (v : Bool × BS) : Nat := (if v.1 then 1 else 0) + v.2.toNat
def S.meas (s : S) : Nat := (s.ent.map vNat).sum + (s.fin.map vNat).sum + (s.cell.map (fun r => (r.map vNat).sum)).sum
theorem sum_set {α : Type} (f : α → Nat) : ∀ (l : List α) (i : Nat) (h : i < l.length) (v : α), ((l.set i v).map f).sum + f l[i] = (l.map f).sum + f v
 | x :: r, 0, _, v => by simp; omega
 | x :: r, i + 1, h, v => by
  have := sum_set f r i (by simpa using h) v;simp at this ⊢;omega
theorem getD_eq {α : Type} (l : List α) (i : Nat) (h : i < l.length) (d : α) : l.getD i d = l[i] := by simp [h]
theorem S.meas_set {p : Prg} {s : S} (h : s.Sized p) {x : Slot} (hx : x.In p) (v : Bool × BS) : (s.set x v).meas + vNat (s.get x) = s.meas + vNat v := by
 cases x with
 | ent f =>
  have hf : f < s.ent.length := by rw [h.ent]; exact hx
  have := sum_set vNat s.ent f hf v;simp only [S.meas, S.set, S.get, getD_eq _ _ hf];omega
 | fin f =>
  have hf : f < s.fin.length := by rw [h.fin]; exact hx
  have := sum_set vNat s.fin f hf v;simp only [S.meas, S.set, S.get, getD_eq _ _ hf];omega
 | at_ f k =>
  have hf : f < s.cell.length := by rw [h.cell]; exact hx.1
  have hr := h.row f hx.1;have hk : k < (s.cell.getD f []).length := by rw [hr]; exact hx.2
  have h1 := sum_set vNat (s.cell.getD f []) k hk v;have h2 := sum_set (fun r : List (Bool × BS) => (r.map vNat).sum) s.cell f hf ((s.cell.getD f []).set k v);rw [← getD_eq s.cell f hf []] at h2;simp only [S.meas, S.set, S.get, getD_eq _ _ hk];omega
structure Grows (p : Prg) (s t : S) : Prop where
 sized : t.Sized p
 le : s.meas ≤ t.meas
 ch : t.ch = true → s.ch = true ∨ s.meas < t.meas
theorem Grows.refl {p : Prg} {s : S} (h : s.Sized p) : Grows p s s := ⟨h, Nat.le_refl _, fun e => .inl e⟩
theorem Grows.trans {p : Prg} {a b c : S} (h1 : Grows p a b) (h2 : Grows p b c) : Grows p a c :=
 ⟨h2.sized, Nat.le_trans h1.le h2.le, fun e => by
  rcases h2.ch e with e | e
  ·rcases h1.ch e with e | e
   ·exact .inl e
   ·exact .inr (Nat.lt_of_lt_of_le e h2.le)
  ·exact .inr (Nat.lt_of_le_of_lt h1.le e)⟩
theorem or_le (a b : BS) : a.toNat ≤ (a ||| b).toNat := by rw [BitVec.toNat_or]; exact Nat.left_le_or
theorem Grows.grow {p : Prg} {s : S} (h : s.Sized p) {x : Slot} (hx : x.In p) (l : BS) : Grows p s (s.grow x l) := by
 have hm := S.meas_set h hx (true, (s.get x).2 ||| l);have hmm : (s.grow x l).meas = (s.set x (true, (s.get x).2 ||| l)).meas := rfl;have ho := or_le (s.get x).2 l;refine ⟨h.grow x l, ?_, fun e => ?_⟩
 ·rw [hmm]
  simp only [vNat, if_true] at hm;split at hm <;> omega
 ·have e : (s.ch || !(s.get x).1 || (s.get x).2 ||| l != (s.get x).2) = true := e
  rw [Bool.or_eq_true, Bool.or_eq_true] at e;rcases e with (e | e) | e
  ·exact .inl e
  ·right
   have e : (s.get x).1 = false := by simpa using e
   rw [hmm];simp only [vNat, if_true, e, Bool.false_eq_true, if_false] at hm;omega
  ·right
   have e : (s.get x).2 ||| l ≠ (s.get x).2 := by simpa using e
   have hne : ((s.get x).2 ||| l).toNat ≠ ((s.get x).2).toNat := fun z => e (BitVec.eq_of_toNat_eq z)
   rw [hmm];simp only [vNat, if_true] at hm;split at hm <;> omega
theorem Grows.foldl {p : Prg} {α : Type} {step : S → α → S} : ∀ (l : List α) (s : S), s.Sized p → (∀ (s : S) (x : α), x ∈ l → s.Sized p → Grows p s (step s x)) → Grows p s (l.foldl step s)
 | [], _, h, _ => Grows.refl h
 | x :: r, s, h, hs => (hs s x (by simp) h).trans (Grows.foldl r _ (hs s x (by simp) h).sized (fun s y hy => hs s y (by simp [hy])))
section
variable {p : Prg} (hW : Wf p)
include hW
omit hW in
theorem Grows.enter {s : S} (h : s.Sized p) {f : Nat} (hf : f < p.funs.length) (l : BS) : Grows p s (s.enter p f l) := by
 unfold S.enter;have h1 := Grows.grow h (x := .ent f) hf l;dsimp only;split
 ·exact h1
 ·rename_i h0
  exact h1.trans (Grows.grow h1.sized (x := .at_ f 0) ⟨hf, by omega⟩ _)
omit hW in
theorem Grows.leave {s : S} (h : s.Sized p) {f : Nat} (hf : f < p.funs.length) : Grows p s (s.leave p f) := by
 unfold S.leave
 have h0 : Grows p s (if p.len f = 0 ∧ (s.get (.ent f)).1 = true then s.grow (.fin f) (s.get (.ent f)).2 else s) := by
  split
  ·exact Grows.grow h (x := .fin f) hf _
  ·exact Grows.refl h
 refine h0.trans (Grows.foldl _ _ h0.sized (fun s k _ hs => ?_));unfold S.leaveStep;split
 ·dsimp only
  have h1 : Grows p s (if (p.ins f k).op = 16 then s.grow (.fin f) (s.get (.at_ f k)).2 else s) := by
   split
   ·exact Grows.grow hs (x := .fin f) hf _
   ·exact Grows.refl hs
  generalize (if (p.ins f k).op = 16 then s.grow (.fin f) (s.get (.at_ f k)).2 else s) = s1 at h1 ⊢;split
  ·exact h1.trans (Grows.grow h1.sized (x := .fin f) hf _)
  ·exact h1
 ·exact Grows.refl hs
theorem Grows.open_ {s : S} (h : s.Sized p) {f k : Nat} (hf : f < p.funs.length) (hk : k < p.len f) (ho : (p.ins f k).op = 35) : Grows p s (s.open_ p f k) := by
 obtain ⟨he0, he1⟩ := (hW.ins f k hf hk).open_ ho
 have hel : (p.ins f k).c.toNat < p.len f := by
  have : (p.fn f).code.length = p.len f := rfl;omega
 unfold S.open_;have h0 := Grows.grow h (x := .at_ f (p.ins f k).c.toNat) ⟨hf, hel⟩ (cleanM p);refine h0.trans (Grows.foldl _ _ h0.sized (fun s j _ hs => ?_));unfold S.openStep;split
 ·dsimp only
  have h1 := Grows.grow hs (x := .at_ f (p.ins f k).c.toNat) ⟨hf, hel⟩ (s.get (.at_ f j)).2;split
  ·exact h1.trans (Grows.grow h1.sized (x := .at_ f (p.ins f k).c.toNat) ⟨hf, hel⟩ _)
  ·exact h1
 ·exact Grows.refl hs
theorem Grows.instruction {s : S} (h : s.Sized p) {f k : Nat} (hf : f < p.funs.length) (hk : k < p.len f) : Grows p s (s.instruction p f k) := by
 rw [S.instruction_eq]
 have hb : (p.ins f k).op = 15 ∨ (p.ins f k).op = 34 ∨ (p.ins f k).op = 17 → (p.ins f k).b.toNat < p.funs.length := fun e => by
  obtain ⟨h0, h1⟩ := (hW.ins f k hf hk).call e;omega
 have h0 : Grows p s (s.first p f k) := by
  unfold S.first;split
  ·rename_i e; exact Grows.enter h (hb (.inr (.inl e))) _
  ·split
   ·rename_i e; exact Grows.enter h (hb (.inl e)) _
   ·split
    ·rename_i e; exact Grows.enter h (hb (.inr (.inr e))) _
    ·split
     ·rename_i e; exact Grows.open_ hW h hf hk e
     ·exact Grows.refl h
 unfold S.goOn;split
 ·exact h0.trans (Grows.foldl _ _ h0.sized (fun s j hj hs => Grows.grow hs (x := .at_ f j) ⟨hf, nextM_lt hj⟩ _))
 ·exact h0
theorem Grows.roundF {s : S} (h : s.Sized p) {f : Nat} (hf : f < p.funs.length) : Grows p s (s.roundF p f) := by
 unfold S.roundF
 have h0 : Grows p s ((List.range (p.len f)).foldl (fun s k => if (s.get (.at_ f k)).1 then s.instruction p f k else s) s) :=
  Grows.foldl _ _ h (fun s k hk hs => by
   split
   ·exact Grows.instruction hW hs hf (List.mem_range.1 hk)
   ·exact Grows.refl hs)
 exact h0.trans (Grows.leave h0.sized hf)
theorem Grows.round {s : S} (h : s.Sized p) : Grows p { s with ch := false } (s.round p) := by
 unfold S.round;exact Grows.foldl _ _ ⟨h.ent, h.fin, h.cell, h.row⟩ (fun s f hf hs => Grows.roundF hW hs (List.mem_range.1 hf))
end
def Prg.slots (p : Prg) : Nat := 2 * p.funs.length + (p.funs.map (fun f => f.code.length)).sum
theorem sum_le {α : Type} (f : α → Nat) (b : Nat) : ∀ l : List α, (∀ x ∈ l, f x ≤ b) → (l.map f).sum ≤ l.length * b
 | [], _ => by simp
 | x :: r, h => by
  have := sum_le f b r (fun y hy => h y (by simp [hy]));have h1 := h x (by simp);simp only [List.map_cons, List.sum_cons, List.length_cons, Nat.add_mul];omega
theorem vNat_le (v : Bool × BS) : vNat v ≤ 4294967296 := by
 unfold vNat;have : v.2.toNat < 4294967296 := v.2.isLt;split <;> omega
theorem cell_sum {p : Prg} : ∀ (c : List (List (Bool × BS))) (fs : List Fn), c.length = fs.length → (∀ i (h1 : i < c.length) (h2 : i < fs.length), c[i].length = fs[i].code.length) → (c.map (fun r => (r.map vNat).sum)).sum ≤ 4294967296 * (fs.map (fun f => f.code.length)).sum
 | [], [], _, _ => by simp
 | r :: c, f :: fs, hl, h => by
  have := cell_sum (p := p) c fs (by simpa using hl) (fun i h1 h2 => h (i + 1) (by simpa using h1) (by simpa using h2));have h0 : r.length = f.code.length := h 0 (by simp) (by simp);have h1 := sum_le vNat 4294967296 r (fun v _ => vNat_le v);simp only [List.map_cons, List.sum_cons, Nat.mul_add];rw [h0] at h1;omega
theorem S.meas_le {p : Prg} {s : S} (h : s.Sized p) : s.meas ≤ 4294967296 * p.slots := by
 have h1 := sum_le vNat 4294967296 s.ent (fun v _ => vNat_le v);have h2 := sum_le vNat 4294967296 s.fin (fun v _ => vNat_le v)
 have h3 := cell_sum (p := p) s.cell p.funs h.cell (fun i hi1 hi2 => by
  have := h.row i hi2;rw [getD_eq _ _ hi1] at this;rw [this, Prg.len, fn_eq hi2])
 rw [h.ent] at h1;rw [h.fin] at h2;unfold S.meas Prg.slots;rw [Nat.mul_add];omega
def Prg.fuel (p : Prg) : Nat := 4294967296 * p.slots + 2
def analysis (p : Prg) : S := S.iter p p.fuel { (startM p).enter p 0 0 with ch := true }
theorem startM_sized (p : Prg) : (startM p).Sized p :=
 ⟨by simp [startM], by simp [startM], by simp [startM], fun f hf => by
  simp only [startM];rw [getD_eq _ _ (by simpa using hf)];simp [Prg.len, fn_eq hf]⟩
structure Going (p : Prg) (g : Nat) (s : S) : Prop where
 sized : s.Sized p
 eq : S.iter p g s = analysis p
 fuel : s.ch = true → 4294967296 * p.slots + 1 ≤ g + s.meas
theorem Going.start {p : Prg} (hW : Wf p) : Going p p.fuel { (startM p).enter p 0 0 with ch := true } :=
 have h := (Grows.enter (startM_sized p) hW.funs.1 0).sized
 ⟨⟨h.ent, h.fin, h.cell, h.row⟩, rfl, fun _ => by unfold Prg.fuel; omega⟩
theorem Going.next {p : Prg} (hW : Wf p) {g : Nat} {s : S} (h : Going p g s) (hc : s.ch = true) : ∃ g', g = g' + 1 ∧ Going p g' (s.round p) := by
 have h1 := S.meas_le h.sized;have h2 := h.fuel hc;obtain ⟨g', rfl⟩ : ∃ g', g = g' + 1 := ⟨g - 1, by omega⟩
 have hr := Grows.round hW h.sized;refine ⟨g', rfl, hr.sized, ?_, fun e => ?_⟩
 ·rw [← h.eq, S.iter, if_pos hc]
 ·rcases hr.ch e with e | e
  ·cases e
  ·have e : s.meas < (s.round p).meas := e
   omega
theorem Going.done {p : Prg} {g : Nat} {s : S} (h : Going p g s) (hc : s.ch = false) : s = analysis p := by
 rw [← h.eq]
 cases g with
 | zero => rfl
 | succ g => rw [S.iter, if_neg (by rw [hc]; decide)]
end
section
open Go.RowKit
def Locks (p : Prg) (b : BS) : Prop := ∀ i, b.getLsbD i = true → ∃ o, p.obs[i]? = some o ∧ (o.kind = 1 ∨ o.kind = 2)
theorem Locks.zero (p : Prg) : Locks p 0 := fun i h => by simp at h
theorem Locks.or {p : Prg} {a b : BS} (ha : Locks p a) (hb : Locks p b) : Locks p (a ||| b) := fun i h => by
 rw [BitVec.getLsbD_or, Bool.or_eq_true] at h;exact h.elim (ha i) (hb i)
theorem Locks.and {p : Prg} {a : BS} (ha : Locks p a) (b : BS) : Locks p (a &&& b) := fun i h => by
 rw [BitVec.getLsbD_and, Bool.and_eq_true] at h;exact ha i h.1
theorem bit_get (m i : Nat) : (bit m).getLsbD i = true → i = m := by
 unfold bit;rw [BitVec.getLsbD_shiftLeft];intro h;simp only [Bool.and_eq_true, decide_eq_true_eq, Bool.not_eq_true', decide_eq_false_iff_not, BitVec.getLsbD_one] at h;omega
theorem Locks.bit {p : Prg} {m : Nat} (h : ∃ o, p.obs[m]? = some o ∧ (o.kind = 1 ∨ o.kind = 2)) : Locks p (bit m) := fun i e => by rw [bit_get m i e]; exact h
theorem Locks.acq {p : Prg} {f : Fn} {i : Ins} (h : InsW p f i) : Locks p (acqBit p i) := by
 unfold acqBit
 cases e : Go.Proofs.YtkpjdanfpolimaaGreat.acq p i with
 | none => exact Locks.zero p
 | some l => exact Locks.bit (acq_idx h e).2
theorem Locks.foldl {p : Prg} {α : Type} {step : BS → α → BS} : ∀ (l : List α) (s : BS), Locks p s → (∀ (s : BS) (x : α), x ∈ l → Locks p s → Locks p (step s x)) → Locks p (l.foldl step s)
 | [], _, h, _ => h
 | x :: r, s, h, hs => Locks.foldl r _ (hs s x (by simp) h) (fun s y hy => hs s y (by simp [hy]))
section
variable {p : Prg} (hW : Wf p)
include hW
theorem ins_mem {f : Fn} (hf : f ∈ p.funs) {i : Ins} (hi : i ∈ f.code) : InsW p f i := by
 obtain ⟨n, hn, rfl⟩ := List.mem_iff_getElem.1 hf;obtain ⟨k, hk, rfl⟩ := List.mem_iff_getElem.1 hi;have hk2 : k < p.len n := by rw [Prg.len, fn_eq hn]; exact hk
 have h := hW.ins n k hn hk2;obtain ⟨hk3, e⟩ := ins_eq hn hk2;rw [e, fn_eq hn] at h;exact h
theorem Locks.all : Locks p (allM p) := by
 unfold allM;refine Locks.foldl _ _ (Locks.zero p) (fun s f hf hs => Locks.foldl _ _ hs (fun s i hi hs => hs.or (Locks.acq (ins_mem hW hf hi))))
theorem Locks.clean : Locks p (cleanM p) := by
 unfold cleanM;refine Locks.foldl _ _ (Locks.zero p) (fun s f hf hs => Locks.foldl _ _ hs (fun s i hi hs => ?_));split
 ·exact hs.or (Locks.acq (ins_mem hW hf hi))
 ·exact hs
end
structure Fine (p : Prg) (s : S) : Prop where
 sized : s.Sized p
 get : ∀ x, Locks p (s.get x).2
theorem Fine.grow {p : Prg} {s : S} (h : Fine p s) {x : Slot} (hx : x.In p) {l : BS} (hl : Locks p l) : Fine p (s.grow x l) :=
 ⟨h.sized.grow x l, fun y => by
  rw [S.get_grow h.sized hx];split
  ·exact (h.get x).or hl
  ·exact h.get y⟩
theorem Fine.flag {p : Prg} {s : S} (h : Fine p s) (c : Bool) : Fine p { s with ch := c } := ⟨⟨h.sized.ent, h.sized.fin, h.sized.cell, h.sized.row⟩, fun x => by
 have := h.get x;cases x <;> exact this⟩
theorem Fine.foldl {p : Prg} {α : Type} {step : S → α → S} : ∀ (l : List α) (s : S), Fine p s → (∀ (s : S) (x : α), x ∈ l → Fine p s → Fine p (step s x)) → Fine p (l.foldl step s)
 | [], _, h, _ => h
 | x :: r, s, h, hs => Fine.foldl r _ (hs s x (by simp) h) (fun s y hy => hs s y (by simp [hy]))
section
variable {p : Prg} (hW : Wf p)
theorem Fine.enter {s : S} (h : Fine p s) {f : Nat} (hf : f < p.funs.length) {l : BS} (hl : Locks p l) : Fine p (s.enter p f l) := by
 unfold S.enter;have h1 := h.grow (x := .ent f) hf hl;dsimp only;split
 ·exact h1
 ·exact h1.grow (x := .at_ f 0) ⟨hf, by omega⟩ (h1.get _)
include hW
theorem Fine.behind {s : S} (h : Fine p s) {f k : Nat} (hf : f < p.funs.length) (hk : k < p.len f) : Locks p (s.behind p f k).1 := by
 unfold S.behind;dsimp only;split
 ·exact h.get _
 ·split
  ·exact (h.get _).or (Locks.clean hW)
  ·split
   ·exact (h.get _).and _
   ·exact (h.get _).or (Locks.acq (hW.ins f k hf hk))
theorem Fine.leave {s : S} (h : Fine p s) {f : Nat} (hf : f < p.funs.length) : Fine p (s.leave p f) := by
 unfold S.leave
 have h0 : Fine p (if p.len f = 0 ∧ (s.get (.ent f)).1 = true then s.grow (.fin f) (s.get (.ent f)).2 else s) := by
  split
  ·exact h.grow (x := .fin f) hf (h.get _)
  ·exact h
 refine Fine.foldl _ _ h0 (fun s k hk hs => ?_);unfold S.leaveStep;split
 ·dsimp only
  have h1 : Fine p (if (p.ins f k).op = 16 then s.grow (.fin f) (s.get (.at_ f k)).2 else s) := by
   split
   ·exact hs.grow (x := .fin f) hf (hs.get _)
   ·exact hs
  generalize (if (p.ins f k).op = 16 then s.grow (.fin f) (s.get (.at_ f k)).2 else s) = s1 at h1 ⊢;split
  ·exact h1.grow (x := .fin f) hf (Fine.behind hW h1 hf (List.mem_range.1 hk))
  ·exact h1
 ·exact hs
omit hW in
theorem Fine.visit {s : S} (h : Fine p s) : ∀ (n : Nat) (a : List Nat × BS) (f : Nat), Locks p a.2 → Locks p (s.visit p n a f).2
 | 0, a, f, ha => by unfold S.visit; exact ha
 | n + 1, a, f, ha => by
  unfold S.visit;split
  ·exact ha
  ·have key : ∀ (l : List Nat) (a : List Nat × BS), Locks p a.2 → Locks p (l.foldl (fun a k => if (s.get (.at_ f k)).1 then (if (p.ins f k).op = 15 then S.visit p s n (a.1, a.2 ||| (s.get (.at_ f k)).2) (p.ins f k).b.toNat else (a.1, a.2 ||| (s.get (.at_ f k)).2)) else a) a).2 := by
    intro l
    induction l with
    | nil => exact fun a ha => ha
    | cons k r ih =>
     intro a ha;rw [List.foldl_cons];refine ih _ ?_;split
     ·split
      ·exact Fine.visit h n _ _ (ha.or (h.get _))
      ·exact ha.or (h.get _)
     ·exact ha
   exact key _ _ ha
omit hW in
theorem Fine.within {s : S} (h : Fine p s) (f : Nat) : Locks p (s.within p f) := h.visit _ _ _ (Locks.zero p)
theorem Fine.open_ {s : S} (h : Fine p s) {f k : Nat} (hf : f < p.funs.length) (hk : k < p.len f) (ho : (p.ins f k).op = 35) : Fine p (s.open_ p f k) := by
 obtain ⟨he0, he1⟩ := (hW.ins f k hf hk).open_ ho
 have hel : (p.ins f k).c.toNat < p.len f := by
  have : (p.fn f).code.length = p.len f := rfl;omega
 unfold S.open_;refine Fine.foldl _ _ (h.grow (x := .at_ f (p.ins f k).c.toNat) ⟨hf, hel⟩ (Locks.clean hW)) (fun s j _ hs => ?_);unfold S.openStep;split
 ·dsimp only
  have h1 := hs.grow (x := .at_ f (p.ins f k).c.toNat) ⟨hf, hel⟩ (hs.get (.at_ f j));split
  ·exact h1.grow (x := .at_ f (p.ins f k).c.toNat) ⟨hf, hel⟩ (h1.within _)
  ·exact h1
 ·exact hs
theorem Fine.instruction {s : S} (h : Fine p s) {f k : Nat} (hf : f < p.funs.length) (hk : k < p.len f) : Fine p (s.instruction p f k) := by
 rw [S.instruction_eq]
 have hb : (p.ins f k).op = 15 ∨ (p.ins f k).op = 34 ∨ (p.ins f k).op = 17 → (p.ins f k).b.toNat < p.funs.length := fun e => by
  obtain ⟨h0, h1⟩ := (hW.ins f k hf hk).call e;omega
 have h0 : Fine p (s.first p f k) := by
  unfold S.first;split
  ·rename_i e; exact h.enter (hb (.inr (.inl e))) (Locks.zero p)
  ·split
   ·rename_i e; exact h.enter (hb (.inl e)) (h.get _)
   ·split
    ·rename_i e; exact h.enter (hb (.inr (.inr e))) (Locks.all hW)
    ·split
     ·rename_i e; exact Fine.open_ hW h hf hk e
     ·exact h
 unfold S.goOn;split
 ·exact Fine.foldl _ _ h0 (fun s j hj hs => hs.grow (x := .at_ f j) ⟨hf, nextM_lt hj⟩ (Fine.behind hW h0 hf hk))
 ·exact h0
theorem Fine.roundF {s : S} (h : Fine p s) {f : Nat} (hf : f < p.funs.length) : Fine p (s.roundF p f) := by
 unfold S.roundF;refine Fine.leave hW (Fine.foldl _ _ h (fun s k hk hs => ?_)) hf;split
 ·exact Fine.instruction hW hs hf (List.mem_range.1 hk)
 ·exact hs
theorem Fine.round {s : S} (h : Fine p s) : Fine p (s.round p) := by
 unfold S.round;exact Fine.foldl _ _ (h.flag false) (fun s f hf hs => Fine.roundF hW hs (List.mem_range.1 hf))
theorem Fine.iter : ∀ (n : Nat) {s : S}, Fine p s → Fine p (S.iter p n s)
 | 0, _, h => h
 | n + 1, s, h => by
  unfold S.iter;split
  ·exact Fine.iter n (Fine.round hW h)
  ·exact h
omit hW in
theorem startM_fine (p : Prg) : Fine p (startM p) := ⟨startM_sized p, fun x => by
 have e : ((startM p).get x).2 = 0 := by
  cases x with
  | ent f => simp only [startM, S.get, List.getD_eq_getElem?_getD, List.getElem?_replicate]; split <;> rfl
  | fin f => simp only [startM, S.get, List.getD_eq_getElem?_getD, List.getElem?_replicate]; split <;> rfl
  | at_ f k =>
   simp only [startM, S.get, List.getD_eq_getElem?_getD, List.getElem?_map]
   cases p.funs[f]? with
   | none => rfl
   | some x => simp only [Option.map_some, Option.getD_some, List.getElem?_replicate]; split <;> rfl
 rw [e]; exact Locks.zero p⟩
theorem analysis_fine : Fine p (analysis p) := Fine.iter hW _ (((startM_fine p).enter hW.funs.1 (Locks.zero p)).flag true)
end
end
section
open Go.RowKit
abbrev Val := Slot → Bool × BS
def Sub (a b : BS) : Prop := a ||| b = b
theorem sub_iff {a b : BS} : Sub a b ↔ ∀ i, a.getLsbD i = true → b.getLsbD i = true := by
 unfold Sub;constructor
 ·intro h i hi
  rw [← h, BitVec.getLsbD_or, hi, Bool.true_or]
 ·intro h
  refine BitVec.eq_of_getLsbD_eq fun i _ => ?_
  rw [BitVec.getLsbD_or]
  cases e : a.getLsbD i with
  | false => rw [Bool.false_or]
  | true => rw [h i e, Bool.true_or]
theorem Sub.refl (a : BS) : Sub a a := sub_iff.2 fun _ h => h
theorem Sub.trans {a b c : BS} (h : Sub a b) (k : Sub b c) : Sub a c := sub_iff.2 fun i e => sub_iff.1 k i (sub_iff.1 h i e)
theorem Sub.antisymm {a b : BS} (h : Sub a b) (k : Sub b a) : a = b := by
 have h : a ||| b = b := h;have k : b ||| a = a := k;rw [← h, BitVec.or_comm, k]
theorem Sub.zero (a : BS) : Sub 0 a := sub_iff.2 fun i h => by simp at h
theorem sub_or {a b c : BS} : Sub (a ||| b) c ↔ Sub a c ∧ Sub b c := by
 simp only [sub_iff, BitVec.getLsbD_or, Bool.or_eq_true];exact ⟨fun h => ⟨fun i e => h i (.inl e), fun i e => h i (.inr e)⟩, fun h i e => e.elim (h.1 i) (h.2 i)⟩
theorem Sub.left {a b : BS} (c : BS) (h : Sub a b) : Sub a (b ||| c) := sub_iff.2 fun i e => by rw [BitVec.getLsbD_or, sub_iff.1 h i e, Bool.true_or]
theorem Sub.right {a c : BS} (b : BS) (h : Sub a c) : Sub a (b ||| c) := sub_iff.2 fun i e => by rw [BitVec.getLsbD_or, sub_iff.1 h i e, Bool.or_true]
theorem Sub.orr {a b : BS} (c : BS) (h : Sub a b) : Sub (a ||| c) (b ||| c) := sub_or.2 ⟨h.left c, (Sub.refl c).right b⟩
theorem Sub.andr {a b : BS} (c : BS) (h : Sub a b) : Sub (a &&& c) (b &&& c) := sub_iff.2 fun i e => by
 rw [BitVec.getLsbD_and, Bool.and_eq_true] at e ⊢;exact ⟨sub_iff.1 h i e.1, e.2⟩
def Has (V : Val) (x : Slot) (l : BS) : Prop := (V x).1 = true ∧ Sub l (V x).2
def LeV (s V : Val) : Prop := ∀ x, ((s x).1 = true → (V x).1 = true) ∧ Sub (s x).2 (V x).2
theorem LeV.refl (s : Val) : LeV s s := fun _ => ⟨id, Sub.refl _⟩
theorem LeV.trans {a b c : Val} (h : LeV a b) (k : LeV b c) : LeV a c := fun x => ⟨fun e => (k x).1 ((h x).1 e), (h x).2.trans (k x).2⟩
theorem LeV.antisymm {a b : Val} (h : LeV a b) (k : LeV b a) : a = b := funext fun x => by
 have e2 := (h x).2.antisymm (k x).2
 have e1 : (a x).1 = (b x).1 := by
  rw [Bool.eq_iff_iff];exact ⟨(h x).1, (k x).1⟩
 exact Prod.ext e1 e2
theorem Has.le {V W : Val} {x : Slot} {l : BS} (h : Has V x l) (k : LeV V W) : Has W x l := ⟨(k x).1 h.1, h.2.trans (k x).2⟩
theorem Has.sub {V : Val} {x : Slot} {l m : BS} (h : Has V x l) (k : Sub m l) : Has V x m := ⟨h.1, k.trans h.2⟩
def behindV (p : Prg) (V : Val) (f k : Nat) : BS × Bool :=
 let i := p.ins f k
 if i.op = 15 then ((V (.fin i.b.toNat)).2, (V (.fin i.b.toNat)).1)
 else if i.op = 36 then ((V (.at_ f k)).2 ||| cleanM p, true)
 else if i.op = 52 ∨ i.op = 54 ∨ i.op = 56 then ((V (.at_ f k)).2 &&& ~~~ bit i.a.toNat, true)
 else ((V (.at_ f k)).2 ||| acqBit p i, true)
theorem behindV_le {p : Prg} {V W : Val} (h : LeV V W) (f k : Nat) : ((behindV p V f k).2 = true → (behindV p W f k).2 = true) ∧ Sub (behindV p V f k).1 (behindV p W f k).1 := by
 unfold behindV;dsimp only;split
 ·exact h _
 ·split
  ·exact ⟨fun _ => rfl, (h _).2.orr _⟩
  ·split
   ·exact ⟨fun _ => rfl, (h _).2.andr _⟩
   ·exact ⟨fun _ => rfl, (h _).2.orr _⟩
inductive CallsTo (p : Prg) (V : Val) (f : Nat) : Nat → Prop
 | refl : CallsTo p V f f
 | step {g k : Nat} : CallsTo p V f g → k < p.len g → (V (.at_ g k)).1 = true → (p.ins g k).op = 15 → CallsTo p V f (p.ins g k).b.toNat
theorem CallsTo.trans {p : Prg} {V : Val} {f g h : Nat} (a : CallsTo p V f g) (b : CallsTo p V g h) : CallsTo p V f h := by
 induction b with
 | refl => exact a
 | step _ h1 h2 h3 ih => exact ih.step h1 h2 h3
theorem CallsTo.le {p : Prg} {V W : Val} (h : LeV V W) {f g : Nat} (a : CallsTo p V f g) : CallsTo p W f g := by
 induction a with
 | refl => exact .refl
 | step _ h1 h2 h3 ih => exact ih.step h1 ((h _).1 h2) h3
def WithinC (p : Prg) (V : Val) (f : Nat) (X : BS) : Prop := ∀ g k, CallsTo p V f g → k < p.len g → (V (.at_ g k)).1 = true → Sub (V (.at_ g k)).2 X
theorem WithinC.le {p : Prg} {V W : Val} (h : LeV V W) {f : Nat} {X : BS} (a : WithinC p W f X) : WithinC p V f X := fun g k h1 h2 h3 => (h _).2.trans (a g k (h1.le h) h2 ((h _).1 h3))
theorem WithinC.mono {p : Prg} {V : Val} {f : Nat} {X Y : BS} (a : WithinC p V f X) (h : Sub X Y) : WithinC p V f Y := fun g k h1 h2 h3 => (a g k h1 h2 h3).trans h
structure FirstC (p : Prg) (V : Val) (f k : Nat) : Prop where
 spawn : (p.ins f k).op = 34 → Has V (.ent (p.ins f k).b.toNat) 0
 call : (p.ins f k).op = 15 → Has V (.ent (p.ins f k).b.toNat) (V (.at_ f k)).2
 defer : (p.ins f k).op = 17 → Has V (.ent (p.ins f k).b.toNat) (allM p)
 open_ : (p.ins f k).op = 35 → Has V (.at_ f (p.ins f k).c.toNat) (cleanM p)
 ins : (p.ins f k).op = 35 → ∀ j ∈ insideM p f k, (V (.at_ f j)).1 = true → Has V (.at_ f (p.ins f k).c.toNat) (V (.at_ f j)).2 ∧ ((p.ins f j).op = 15 → WithinC p V (p.ins f j).b.toNat (V (.at_ f (p.ins f k).c.toNat)).2)
def Ends (p : Prg) (f k : Nat) : Prop := k + 1 = p.len f ∧ (p.ins f k).op ≠ 13 ∧ (p.ins f k).op ≠ 16 ∧ (p.ins f k).op ≠ 21
structure InsC (p : Prg) (V : Val) (f k : Nat) : Prop where
 first : FirstC p V f k
 next : (behindV p V f k).2 = true → ∀ n ∈ nextM p f k, Has V (.at_ f n) (behindV p V f k).1
 ret : (p.ins f k).op = 16 → Has V (.fin f) (V (.at_ f k)).2
 last : Ends p f k → (behindV p V f k).2 = true → Has V (.fin f) (behindV p V f k).1
structure Closed (p : Prg) (V : Val) : Prop where
 main : Has V (.ent 0) 0
 enter : ∀ f, f < p.funs.length → (V (.ent f)).1 = true → 0 < p.len f → Has V (.at_ f 0) (V (.ent f)).2
 none : ∀ f, f < p.funs.length → (V (.ent f)).1 = true → p.len f = 0 → Has V (.fin f) (V (.ent f)).2
 ins : ∀ f k, f < p.funs.length → k < p.len f → (V (.at_ f k)).1 = true → InsC p V f k
/-! within -/
def DoneAt (p : Prg) (s : S) (g j : Nat) (a : List Nat × BS) : Prop := ∀ k, k < j → k < p.len g → (s.get (.at_ g k)).1 = true → Sub (s.get (.at_ g k)).2 a.2 ∧ ((p.ins g k).op = 15 → (p.ins g k).b.toNat ∈ a.1)
theorem DoneAt.more {p : Prg} {s : S} {g j : Nat} {a b : List Nat × BS} (h : DoneAt p s g j a) (h1 : ∀ x ∈ a.1, x ∈ b.1) (h2 : Sub a.2 b.2) : DoneAt p s g j b := fun k k1 k2 k3 => ⟨(h k k1 k2 k3).1.trans h2, fun e => h1 _ ((h k k1 k2 k3).2 e)⟩
structure VisitOk (p : Prg) (s : S) (f : Nat) (a a' : List Nat × BS) : Prop where
 sub : ∀ x ∈ a.1, x ∈ a'.1
 mem : f ∈ a'.1
 out : Sub a.2 a'.2
 full : ∀ g ∈ a'.1, g ∉ a.1 → DoneAt p s g (p.len g) a'
 snd : ∀ X, Sub a.2 X → WithinC p s.get f X → Sub a'.2 X
structure RowOk (p : Prg) (s : S) (f : Nat) (a : List Nat × BS) (j : Nat) (a' : List Nat × BS) : Prop where
 sub : ∀ x ∈ f :: a.1, x ∈ a'.1
 out : Sub a.2 a'.2
 full : ∀ g ∈ a'.1, g ∉ f :: a.1 → DoneAt p s g (p.len g) a'
 row : DoneAt p s f j a'
 snd : ∀ X, Sub a.2 X → WithinC p s.get f X → Sub a'.2 X
theorem visit_ok {p : Prg} (hW : Wf p) (s : S) : ∀ (n : Nat) (a : List Nat × BS) (f : Nat), f < p.funs.length → unseen p.funs.length a.1 < n → VisitOk p s f a (s.visit p n a f)
 | 0, _, _, _, h => by omega
 | n + 1, a, f, hf, hn => by
  rw [S.visit_succ];by_cases hm : f ∈ a.1
  ·rw [if_pos hm]
   exact ⟨fun _ h => h, hm, Sub.refl _, fun g h1 h2 => absurd h1 h2, fun _ h _ => h⟩
  ·rw [if_neg hm]
   have hu := unseen_lt hf hm
   have key : ∀ j, j ≤ p.len f → RowOk p s f a j (s.visitTo p n f (f :: a.1, a.2) j) := by
    intro j
    induction j with
    | zero => exact fun _ => ⟨fun _ h => h, Sub.refl _, fun g h1 h2 => absurd h1 h2, fun k hk => by omega, fun _ h _ => h⟩
    | succ j ih =>
     intro hj;obtain ⟨i1, i2, i3, i4, i5⟩ := ih (by omega);rw [S.visitTo_succ];generalize s.visitTo p n f (f :: a.1, a.2) j = b at i1 i2 i3 i4 i5;unfold S.visitStep;split
     ·rename_i hk
      split
      ·rename_i ho
       have hb : (p.ins f j).b.toNat < p.funs.length := by
        have := (hW.ins f j hf (by omega)).call (.inl ho);obtain ⟨h0, h1⟩ := this;omega
       have hun : unseen p.funs.length b.1 < n := by
        have := unseen_mono p.funs.length i1;omega
       obtain ⟨v1, v2, v3, v4, v5⟩ := visit_ok hW s n (b.1, b.2 ||| (s.get (.at_ f j)).2) (p.ins f j).b.toNat hb hun;generalize s.visit p n (b.1, b.2 ||| (s.get (.at_ f j)).2) (p.ins f j).b.toNat = c at v1 v2 v3 v4 v5;have v3 := sub_or.1 v3;refine ⟨fun x hx => v1 x (i1 x hx), i2.trans v3.1, fun g h1 h2 => ?_, fun k h1 h2 h3 => ?_, fun X h1 h2 => ?_⟩
       ·by_cases e : g ∈ b.1
        ·exact (i3 g e h2).more v1 v3.1
        ·exact v4 g h1 e
       ·by_cases e : k = j
        ·subst e; exact ⟨v3.2, fun _ => v2⟩
        ·exact (i4.more v1 v3.1) k (by omega) h2 h3
       ·refine v5 X (sub_or.2 ⟨i5 X h1 h2, h2 f j .refl (by omega) hk⟩) fun g k c1 c2 c3 => h2 g k ((CallsTo.refl.step (by omega) hk ho).trans c1) c2 c3
      ·rename_i ho
       have v3 : Sub b.2 (b.2 ||| (s.get (.at_ f j)).2) := (Sub.refl _).left _;refine ⟨i1, i2.trans v3, fun g h1 h2 => (i3 g h1 h2).more (fun _ h => h) v3, fun k h1 h2 h3 => ?_, fun X h1 h2 => sub_or.2 ⟨i5 X h1 h2, h2 f j .refl (by omega) hk⟩⟩;by_cases e : k = j
       ·subst e; exact ⟨(Sub.refl _).right _, fun z => absurd z ho⟩
       ·exact (i4.more (b := (b.1, b.2 ||| (s.get (.at_ f j)).2)) (fun _ h => h) v3) k (by omega) h2 h3
     ·rename_i hk
      refine ⟨i1, i2, i3, fun k h1 h2 h3 => ?_, i5⟩;by_cases e : k = j
      ·subst e; exact absurd h3 hk
      ·exact i4 k (by omega) h2 h3
   obtain ⟨i1, i2, i3, i4, i5⟩ := key (p.len f) (Nat.le_refl _);have hv : (List.range (p.len f)).foldl (s.visitStep p n f) (f :: a.1, a.2) = s.visitTo p n f (f :: a.1, a.2) (p.len f) := rfl;rw [hv];refine ⟨fun x hx => i1 x (by simp [hx]), i1 f (by simp), i2, fun g h1 h2 => ?_, i5⟩;by_cases e : g = f
   ·subst e; exact i4
   ·exact i3 g h1 (by simp [e, h2])
theorem unseen_nil (n : Nat) : unseen n [] < n + 1 := by have := unseen_le n []; omega
theorem within_ok {p : Prg} (hW : Wf p) (s : S) {f : Nat} (hf : f < p.funs.length) (X : BS) : Sub (s.within p f) X ↔ WithinC p s.get f X := by
 have h := visit_ok hW s (p.funs.length + 1) ([], 0) f hf (unseen_nil _);unfold S.within;generalize s.visit p (p.funs.length + 1) ([], 0) f = a at h;constructor
 ·intro hX g k hc
  have hg : g ∈ a.1 := by
   clear k
   induction hc with
   | refl => exact h.mem
   | step _ h1 h2 h3 ih => exact (h.full _ ih (by simp) _ h1 h1 h2).2 h3
  exact fun h1 h2 => ((h.full g hg (by simp) k h1 h1 h2).1).trans hX
 ·exact fun hc => h.snd X (Sub.zero _) hc
/-! Steps -/
theorem S.set_self {p : Prg} {s : S} (h : s.Sized p) {x : Slot} (hx : x.In p) : s.set x (s.get x) = s := by
 cases x with
 | ent f =>
  have hf : f < s.ent.length := by rw [h.ent]; exact hx
  simp only [S.set, S.get, getD_eq _ _ hf, List.set_getElem_self]
 | fin f =>
  have hf : f < s.fin.length := by rw [h.fin]; exact hx
  simp only [S.set, S.get, getD_eq _ _ hf, List.set_getElem_self]
 | at_ f k =>
  have hf : f < s.cell.length := by rw [h.cell]; exact hx.1
  have hk : k < (s.cell.getD f []).length := by rw [h.row f hx.1]; exact hx.2
  simp only [S.set, S.get, getD_eq _ _ hk, List.set_getElem_self];simp only [getD_eq _ _ hf, List.set_getElem_self]
theorem grow_still {p : Prg} {s : S} (h : s.Sized p) {x : Slot} (hx : x.In p) {l : BS} (e : (s.grow x l).ch = false) : s.grow x l = s ∧ Has s.get x l ∧ s.ch = false := by
 have e : (s.ch || !(s.get x).1 || (s.get x).2 ||| l != (s.get x).2) = false := e;simp only [Bool.or_eq_false_iff, Bool.not_eq_false'] at e;obtain ⟨⟨e1, e2⟩, e3⟩ := e;have e3 : (s.get x).2 ||| l = (s.get x).2 := by simpa using e3
 have hp : (true, (s.get x).2 ||| l) = s.get x := by rw [e3, ← e2]
 refine ⟨?_, ⟨e2, by unfold Sub; rw [BitVec.or_comm]; exact e3⟩, e1⟩;unfold S.grow;rw [hp, S.set_self h hx, e1, e2, e3];simp;rw [← e1]
structure Up (p : Prg) (C : Val → Prop) (I : S → Prop) (s t : S) (R : S → Prop) : Prop where
 grows : Grows p s t
 up : LeV s.get t.get
 low : ∀ V, C V → LeV s.get V → LeV t.get V
 kept : I s → I t
 still : t.ch = false → t = s ∧ R s ∧ s.ch = false
section
variable {p : Prg} {C : Val → Prop} {I : S → Prop}
theorem Up.refl {s : S} (h : s.Sized p) : Up p C I s s (fun _ => True) := ⟨Grows.refl h, LeV.refl _, fun _ _ h => h, fun h => h, fun e => ⟨rfl, trivial, e⟩⟩
theorem Up.seq {s t u : S} {R Q : S → Prop} (h : Up p C I s t R) (k : Up p C I t u Q) : Up p C I s u (fun z => R z ∧ Q z) :=
 ⟨h.grows.trans k.grows, h.up.trans k.up, fun V c l => k.low V c (h.low V c l), fun i => k.kept (h.kept i), fun e => by
  obtain ⟨e1, r1, c1⟩ := k.still e;obtain ⟨e2, r2, c2⟩ := h.still c1;rw [e2] at r1;exact ⟨e1.trans e2, ⟨r2, r1⟩, c2⟩⟩
theorem Up.imp {s t : S} {R Q : S → Prop} (h : Up p C I s t R) (k : R s → Q s) : Up p C I s t Q := ⟨h.grows, h.up, h.low, h.kept, fun e => by obtain ⟨e1, r1, c1⟩ := h.still e; exact ⟨e1, k r1, c1⟩⟩
theorem Up.lift {C' : Val → Prop} {s t : S} {R : S → Prop} (h : Up p C I s t R) (k : ∀ V, C' V → LeV s.get V → C V) : Up p C' I s t R := ⟨h.grows, h.up, fun V c l => h.low V (k V c l) l, h.kept, h.still⟩
theorem get_grow_le {s : S} (h : s.Sized p) {x : Slot} (hx : x.In p) {l : BS} {V : Val} (hl : LeV s.get V) (hv : Has V x l) : LeV (s.grow x l).get V := fun y => by
 rw [S.get_grow h hx];split
 ·rename_i e; subst e
  exact ⟨fun _ => hv.1, sub_or.2 ⟨(hl _).2, hv.2⟩⟩
 ·exact hl y
theorem le_grow {s : S} (h : s.Sized p) {x : Slot} (hx : x.In p) (l : BS) : LeV s.get (s.grow x l).get := fun y => by
 rw [S.get_grow h hx];split
 ·rename_i e; subst e
  exact ⟨fun _ => rfl, (Sub.refl _).left _⟩
 ·exact ⟨id, Sub.refl _⟩
theorem Up.grow {s : S} (h : s.Sized p) {x : Slot} (hx : x.In p) {l : BS} (hv : ∀ V, C V → LeV s.get V → Has V x l) (hI : I s → I (s.grow x l)) : Up p C I s (s.grow x l) (fun z => Has z.get x l) :=
 ⟨Grows.grow h hx l, le_grow h hx l, fun V c k => get_grow_le h hx k (hv V c k), hI, fun e => grow_still h hx e⟩
theorem Up.foldl {α : Type} {step : S → α → S} {R : α → S → Prop} : ∀ (l : List α) (s : S), s.Sized p → (∀ (s : S) (x : α), x ∈ l → s.Sized p → Up p C I s (step s x) (R x)) → Up p C I s (l.foldl step s) (fun z => ∀ x ∈ l, R x z)
 | [], s, h, _ => (Up.refl h).imp fun _ => by simp
 | x :: r, s, h, hs => by
  have h1 := hs s x (by simp) h;refine (h1.seq (Up.foldl r (step s x) h1.grows.sized (fun s y hy => hs s y (by simp [hy])))).imp ?_;rintro ⟨a, b⟩ y hy;rcases List.mem_cons.1 hy with rfl | hy
  ·exact a
  ·exact b y hy
end
def EntI (p : Prg) (s : S) : Prop := ∀ f, f < p.funs.length → (s.get (.ent f)).1 = true → 0 < p.len f → Has s.get (.at_ f 0) (s.get (.ent f)).2
theorem EntI.grow {p : Prg} {s : S} (h : s.Sized p) {x : Slot} (hx : x.In p) (hn : ∀ f, x ≠ .ent f) (l : BS) (hI : EntI p s) : EntI p (s.grow x l) := by
 intro f hf;unfold Has;rw [S.get_grow h hx, S.get_grow h hx, if_neg (fun e => hn f e.symm)];intro h1 h2;obtain ⟨a, b⟩ := hI f hf h1 h2;split
 ·rename_i e; subst e
  exact ⟨rfl, b.left _⟩
 ·exact ⟨a, b⟩
section
variable {p : Prg} (hW : Wf p)
theorem up_enter {C : Val → Prop} (hC : ∀ V, C V → Closed p V) {s : S} (h : s.Sized p) {f : Nat} (hf : f < p.funs.length) (l : BS) (hv : ∀ V, C V → LeV s.get V → Has V (.ent f) l) : Up p C (EntI p) s (s.enter p f l) (fun z => Has z.get (.ent f) l) := by
 unfold S.enter;dsimp only;by_cases h0 : p.len f = 0
 ·rw [if_pos h0]
  refine Up.grow (x := .ent f) h hf hv fun hI g hg => ?_
  unfold Has;rw [S.get_grow h (x := .ent f) hf, S.get_grow h (x := .ent f) hf];rw [if_neg (show Slot.at_ g 0 ≠ .ent f by simp)];split
  ·rename_i e; injection e with e; subst e; omega
  ·exact hI g hg
 ·rw [if_neg h0]
  have u1 : Up p C (fun _ => True) s (s.grow (.ent f) l) (fun z => Has z.get (.ent f) l) := Up.grow (x := .ent f) h hf hv fun _ => trivial
  have hs1 := u1.grows.sized;have hat : (Slot.at_ f 0).In p := ⟨hf, by omega⟩
  have u2 : Up p C (fun _ => True) (s.grow (.ent f) l) ((s.grow (.ent f) l).grow (.at_ f 0) ((s.grow (.ent f) l).get (.ent f)).2) (fun _ => True) := (Up.grow hs1 hat (fun V c le => by
   have h1 := (le (.ent f)).1 (by rw [S.get_grow h (x := .ent f) hf]; simp);exact ((hC V c).enter f hf h1 (by omega)).sub (le (.ent f)).2) (fun _ => trivial)).imp fun _ => trivial
  have u := (u1.seq u2).imp (Q := fun z => Has z.get (.ent f) l) fun h => h.1
  refine ⟨u.grows, u.up, u.low, fun hI g hg => ?_, u.still⟩;generalize hse : s.grow (.ent f) l = s1 at hs1;have hg1 : ∀ y, s1.get y = if y = .ent f then (true, (s.get (.ent f)).2 ||| l) else s.get y := fun y => by rw [← hse]; exact S.get_grow h (x := .ent f) hf l y
  unfold Has;rw [S.get_grow hs1 hat, S.get_grow hs1 hat, if_neg (by simp)];intro h1 h2;by_cases e : g = f
  ·subst e
   rw [if_pos rfl];exact ⟨rfl, (Sub.refl _).right _⟩
  ·have hne : Slot.at_ g 0 ≠ .at_ f 0 := fun z => by injection z with z; exact e z
   rw [if_neg hne];have h3 : s1.get (.ent g) = s.get (.ent g) := by rw [hg1, if_neg (fun z => by injection z with z; exact e z)]
   have h4 : s1.get (.at_ g 0) = s.get (.at_ g 0) := by rw [hg1, if_neg (by simp)]
   rw [h3] at h1 ⊢;rw [h4];exact hI g hg h1 h2
include hW
theorem up_openL {C : Val → Prop} {I : S → Prop} {s : S} (h : s.Sized p) {f k : Nat} (hf : f < p.funs.length) (hk : k < p.len f) (ho : (p.ins f k).op = 35) (hC : ∀ V, C V → FirstC p V f k) (L : List Nat) (hL : ∀ j ∈ L, j ∈ insideM p f k) (hI : ∀ (z : S) (n : Nat) (b : BS), n < p.len f → z.Sized p → I z → I (z.grow (.at_ f n) b)) :
  Up p C I s (L.foldl (S.openStep p f (p.ins f k).c.toNat) (s.grow (.at_ f (p.ins f k).c.toNat) (cleanM p))) (fun z => Has z.get (.at_ f (p.ins f k).c.toNat) (cleanM p) ∧ ∀ j ∈ L, (z.get (.at_ f j)).1 = true → Has z.get (.at_ f (p.ins f k).c.toNat) (z.get (.at_ f j)).2 ∧ ((p.ins f j).op = 15 → WithinC p z.get (p.ins f j).b.toNat (z.get (.at_ f (p.ins f k).c.toNat)).2)) := by
 obtain ⟨he0, he1⟩ := (hW.ins f k hf hk).open_ ho
 have hel : (p.ins f k).c.toNat < p.len f := by
  have : (p.fn f).code.length = p.len f := rfl;omega
 have hin : (Slot.at_ f (p.ins f k).c.toNat).In p := ⟨hf, hel⟩
 have u0 : Up p C I s (s.grow (.at_ f (p.ins f k).c.toNat) (cleanM p)) _ := Up.grow h hin (fun V c _ => (hC V c).open_ ho) (hI s _ _ hel h);refine u0.seq (Up.foldl (R := fun j z => (z.get (.at_ f j)).1 = true → Has z.get (.at_ f (p.ins f k).c.toNat) (z.get (.at_ f j)).2 ∧ ((p.ins f j).op = 15 → WithinC p z.get (p.ins f j).b.toNat (z.get (.at_ f (p.ins f k).c.toNat)).2)) _ _ u0.grows.sized fun s j hj hs => ?_);have hj := hL j hj;unfold S.openStep;split
 ·rename_i hkn
  dsimp only;have u1 : Up p C I s (s.grow (.at_ f (p.ins f k).c.toNat) (s.get (.at_ f j)).2) _ := Up.grow hs hin (fun V c le => (((hC V c).ins ho j hj ((le _).1 hkn)).1).sub (le _).2) (hI s _ _ hel hs);split
  ·rename_i hoj
   have hjl : j < p.len f := by rw [insideM_eq] at hj; exact from_mem hj
   have hb : (p.ins f j).b.toNat < p.funs.length := by
    obtain ⟨h0, h1⟩ := (hW.ins f j hf hjl).call (.inl hoj);omega
   have hs1 := u1.grows.sized
   have hkn1 : ((s.grow (.at_ f (p.ins f k).c.toNat) (s.get (.at_ f j)).2).get (.at_ f j)).1 = true := by
    rw [S.get_grow hs hin];split
    ·rfl
    ·exact hkn
   have u2 : Up p C I (s.grow (.at_ f (p.ins f k).c.toNat) (s.get (.at_ f j)).2) _ _ := Up.grow hs1 hin (fun V c le => by
    obtain ⟨a, b⟩ := (hC V c).ins ho j hj ((le _).1 hkn1);exact ⟨a.1, (within_ok hW _ hb _).2 ((b hoj).le le)⟩) (hI _ _ ((s.grow (.at_ f (p.ins f k).c.toNat) (s.get (.at_ f j)).2).within p (p.ins f j).b.toNat) hel hs1)
   refine ⟨(u1.seq u2).grows, (u1.seq u2).up, (u1.seq u2).low, (u1.seq u2).kept, fun e => ?_⟩;obtain ⟨e2, q2, c2⟩ := u2.still e;obtain ⟨e1, q1, c1⟩ := u1.still c2;refine ⟨e2.trans e1, fun _ => ⟨q1, fun _ => ?_⟩, c1⟩;rw [e1] at q2;exact (within_ok hW _ hb _).1 q2.2
  ·rename_i hoj
   exact u1.imp fun q _ => ⟨q, fun z => absurd z hoj⟩
 ·rename_i hkn
  exact (Up.refl hs).imp fun _ z => absurd z hkn
theorem up_open {C : Val → Prop} {s : S} (h : s.Sized p) {f k : Nat} (hf : f < p.funs.length) (hk : k < p.len f) (ho : (p.ins f k).op = 35) (hC : ∀ V, C V → FirstC p V f k) :
  Up p C (EntI p) s (s.open_ p f k) (fun z => Has z.get (.at_ f (p.ins f k).c.toNat) (cleanM p) ∧ ∀ j ∈ insideM p f k, (z.get (.at_ f j)).1 = true → Has z.get (.at_ f (p.ins f k).c.toNat) (z.get (.at_ f j)).2 ∧ ((p.ins f j).op = 15 → WithinC p z.get (p.ins f j).b.toNat (z.get (.at_ f (p.ins f k).c.toNat)).2)) :=
 up_openL hW h hf hk ho hC (insideM p f k) (fun _ h => h) (fun z n b hn hz => EntI.grow hz (x := .at_ f n) ⟨hf, hn⟩ (fun _ => by simp) b)
theorem up_first {C : Val → Prop} {s : S} (h : s.Sized p) {f k : Nat} (hf : f < p.funs.length) (hk : k < p.len f) (hC : ∀ V, C V → Closed p V ∧ FirstC p V f k) : Up p C (EntI p) s (s.first p f k) (fun z => FirstC p z.get f k) := by
 have hb : (p.ins f k).op = 15 ∨ (p.ins f k).op = 34 ∨ (p.ins f k).op = 17 → (p.ins f k).b.toNat < p.funs.length := fun e => by
  obtain ⟨h0, h1⟩ := (hW.ins f k hf hk).call e;omega
 unfold S.first;split
 ·rename_i e
  exact (up_enter (fun V c => (hC V c).1) h (hb (.inr (.inl e))) 0 (fun V c _ => (hC V c).2.spawn e)).imp fun q => ⟨fun _ => q, fun z => by omega, fun z => by omega, fun z => by omega, fun z => by omega⟩
 ·split
  ·rename_i e
   exact (up_enter (fun V c => (hC V c).1) h (hb (.inl e)) _ (fun V c le => ((hC V c).2.call e).sub (le _).2)).imp fun q => ⟨fun z => by omega, fun _ => q, fun z => by omega, fun z => by omega, fun z => by omega⟩
  ·split
   ·rename_i e
    exact (up_enter (fun V c => (hC V c).1) h (hb (.inr (.inr e))) _ (fun V c _ => (hC V c).2.defer e)).imp fun q => ⟨fun z => by omega, fun z => by omega, fun _ => q, fun z => by omega, fun z => by omega⟩
   ·split
    ·rename_i e
     exact (up_open hW h hf hk e (fun V c => (hC V c).2)).imp fun q => ⟨fun z => by omega, fun z => by omega, fun z => by omega, fun _ => q.1, fun _ => q.2⟩
    ·exact (Up.refl h).imp fun _ => ⟨fun z => by omega, fun z => by omega, fun z => by omega, fun z => by omega, fun z => by omega⟩
omit hW in
theorem up_next {C : Val → Prop} {I : S → Prop} {s : S} (h : s.Sized p) {f k : Nat} (hf : f < p.funs.length) (b : BS) (hC : ∀ V, C V → LeV s.get V → ∀ n ∈ nextM p f k, Has V (.at_ f n) b) (hI : ∀ (z : S) n, n < p.len f → z.Sized p → I z → I (z.grow (.at_ f n) b)) :
  Up p C I s ((nextM p f k).foldl (fun z j => z.grow (.at_ f j) b) s) (fun z => ∀ n ∈ nextM p f k, Has z.get (.at_ f n) b) := by
 refine (Up.foldl (C := fun V => C V ∧ LeV s.get V) (R := fun n z => Has z.get (.at_ f n) b) _ _ h fun z n hn hz => ?_).lift fun V c le => ⟨c, le⟩
 have hnl := nextM_lt hn;exact Up.grow hz (x := .at_ f n) ⟨hf, hnl⟩ (fun V c _ => hC V c.1 c.2 n hn) (hI z n hnl hz)
omit hW in
theorem up_goOn {C : Val → Prop} {s : S} (h : s.Sized p) {f k : Nat} (hf : f < p.funs.length) (hC : ∀ V, C V → (behindV p V f k).2 = true → ∀ n ∈ nextM p f k, Has V (.at_ f n) (behindV p V f k).1) :
  Up p C (EntI p) s (s.goOn p f k) (fun z => (behindV p z.get f k).2 = true → ∀ n ∈ nextM p f k, Has z.get (.at_ f n) (behindV p z.get f k).1) := by
 unfold S.goOn;split
 ·rename_i hb
  refine (up_next h hf _ (fun V c le n hn => ?_) (fun z n hn hz => EntI.grow hz (x := .at_ f n) ⟨hf, hn⟩ (fun _ => by simp) _)).imp fun q _ => q
  have hl := behindV_le (p := p) le f k;exact (hC V c (hl.1 hb) n hn).sub hl.2
 ·rename_i hb
  exact (Up.refl h).imp fun _ z => absurd z hb
theorem up_instr {s : S} (h : s.Sized p) {f k : Nat} (hf : f < p.funs.length) (hk : k < p.len f) (hkn : (s.get (.at_ f k)).1 = true) :
  Up p (Closed p) (EntI p) s (s.instruction p f k) (fun z => FirstC p z.get f k ∧ ((behindV p z.get f k).2 = true → ∀ n ∈ nextM p f k, Has z.get (.at_ f n) (behindV p z.get f k).1)) := by
 rw [S.instruction_eq];have u1 := up_first (C := fun V => Closed p V ∧ InsC p V f k) hW h hf hk (fun V c => ⟨c.1, c.2.first⟩);have u2 := up_goOn (C := fun V => Closed p V ∧ InsC p V f k) u1.grows.sized (k := k) hf (fun V c => c.2.next);exact (u1.seq u2).lift fun V c le => ⟨c, c.ins f k hf hk ((le _).1 hkn)⟩
def LeaveC (p : Prg) (V : Val) (f k : Nat) : Prop := ((p.ins f k).op = 16 → Has V (.fin f) (V (.at_ f k)).2) ∧ (Ends p f k → (behindV p V f k).2 = true → Has V (.fin f) (behindV p V f k).1)
omit hW in
theorem up_leave {s : S} (h : s.Sized p) {f : Nat} (hf : f < p.funs.length) :
  Up p (Closed p) (EntI p) s (s.leave p f) (fun z => (p.len f = 0 → (z.get (.ent f)).1 = true → Has z.get (.fin f) (z.get (.ent f)).2) ∧ ∀ k ∈ List.range (p.len f), (z.get (.at_ f k)).1 = true → LeaveC p z.get f k) := by
 unfold S.leave;have hin : (Slot.fin f).In p := hf;have hI : ∀ (z : S) (b : BS), z.Sized p → EntI p z → EntI p (z.grow (.fin f) b) := fun z b hz => EntI.grow hz hin (fun _ => by simp) b
 have u0 : Up p (Closed p) (EntI p) s (if p.len f = 0 ∧ (s.get (.ent f)).1 = true then s.grow (.fin f) (s.get (.ent f)).2 else s) (fun z => p.len f = 0 → (z.get (.ent f)).1 = true → Has z.get (.fin f) (z.get (.ent f)).2) := by
  split
  ·rename_i e
   exact (Up.grow h hin (fun V c le => (c.none f hf ((le _).1 e.2) e.1).sub (le _).2) (hI s _ h)).imp fun q _ _ => q
  ·rename_i e
   exact (Up.refl h).imp fun _ a b => absurd ⟨a, b⟩ e
 refine u0.seq (Up.foldl (R := fun k z => (z.get (.at_ f k)).1 = true → LeaveC p z.get f k) _ _ u0.grows.sized fun s k hk hs => ?_);have hk := List.mem_range.1 hk;unfold S.leaveStep;split
 ·rename_i hkn
  dsimp only;have hl : ∀ V, Closed p V → LeV s.get V → InsC p V f k := fun V c le => c.ins f k hf hk ((le _).1 hkn)
  have u1 : Up p (fun V => Closed p V ∧ InsC p V f k) (EntI p) s (if (p.ins f k).op = 16 then s.grow (.fin f) (s.get (.at_ f k)).2 else s) (fun z => (p.ins f k).op = 16 → Has z.get (.fin f) (z.get (.at_ f k)).2) := by
   split
   ·rename_i e
    exact (Up.grow hs hin (fun V c le => (c.2.ret e).sub (le _).2) (hI s _ hs)).imp fun q _ => q
   ·rename_i e
    exact (Up.refl hs).imp fun _ z => absurd z e
  generalize (if (p.ins f k).op = 16 then s.grow (.fin f) (s.get (.at_ f k)).2 else s) = s1 at u1 ⊢
  have u2 : Up p (fun V => Closed p V ∧ InsC p V f k) (EntI p) s1 (if k + 1 = p.len f ∧ (p.ins f k).op ≠ 13 ∧ (p.ins f k).op ≠ 16 ∧ (p.ins f k).op ≠ 21 ∧ (s1.behind p f k).2 = true then s1.grow (.fin f) (s1.behind p f k).1 else s1) (fun z => Ends p f k → (behindV p z.get f k).2 = true → Has z.get (.fin f) (behindV p z.get f k).1) := by
   split
   ·rename_i e
    refine (Up.grow u1.grows.sized hin (fun V c le => ?_) (hI s1 _ u1.grows.sized)).imp fun q _ _ => q
    have hb := behindV_le (p := p) le f k;exact (c.2.last ⟨e.1, e.2.1, e.2.2.1, e.2.2.2.1⟩ (hb.1 e.2.2.2.2)).sub hb.2
   ·rename_i e
    exact (Up.refl u1.grows.sized).imp fun _ a b => absurd ⟨a.1, a.2.1, a.2.2.1, a.2.2.2, b⟩ e
  exact ((u1.seq u2).lift fun V c le => ⟨c, hl V c le⟩).imp fun q _ => q
 ·rename_i hkn
  exact (Up.refl hs).imp fun _ z => absurd z hkn
def FnC (p : Prg) (V : Val) (f : Nat) : Prop := (p.len f = 0 → (V (.ent f)).1 = true → Has V (.fin f) (V (.ent f)).2) ∧ ∀ k, k < p.len f → (V (.at_ f k)).1 = true → InsC p V f k
theorem up_roundF {s : S} (h : s.Sized p) {f : Nat} (hf : f < p.funs.length) : Up p (Closed p) (EntI p) s (s.roundF p f) (fun z => FnC p z.get f) := by
 unfold S.roundF
 have u0 : Up p (Closed p) (EntI p) s ((List.range (p.len f)).foldl (fun s k => if (s.get (.at_ f k)).1 then s.instruction p f k else s) s) (fun z => ∀ k ∈ List.range (p.len f), (z.get (.at_ f k)).1 = true → FirstC p z.get f k ∧ ((behindV p z.get f k).2 = true → ∀ n ∈ nextM p f k, Has z.get (.at_ f n) (behindV p z.get f k).1)) :=
  Up.foldl (R := fun k z => (z.get (.at_ f k)).1 = true → FirstC p z.get f k ∧ ((behindV p z.get f k).2 = true → ∀ n ∈ nextM p f k, Has z.get (.at_ f n) (behindV p z.get f k).1)) _ _ h (fun s k hk hs => by
   split
   ·rename_i e
    exact (up_instr hW hs hf (List.mem_range.1 hk) e).imp fun q _ => q
   ·rename_i e
    exact (Up.refl hs).imp fun _ z => absurd z e)
 refine (u0.seq (up_leave u0.grows.sized hf)).imp ?_;rintro ⟨a, b, c⟩;refine ⟨b, fun k hk hkn => ?_⟩;obtain ⟨a1, a2⟩ := a k (List.mem_range.2 hk) hkn;obtain ⟨c1, c2⟩ := c k (List.mem_range.2 hk) hkn;exact ⟨a1, a2, c1, c2⟩
theorem up_round {s : S} (h : s.Sized p) : Up p (Closed p) (EntI p) { s with ch := false } (s.round p) (fun z => ∀ f ∈ List.range p.funs.length, FnC p z.get f) := by
 unfold S.round;exact Up.foldl (R := fun f z => FnC p z.get f) _ _ ⟨h.ent, h.fin, h.cell, h.row⟩ (fun s f hf hs => up_roundF hW hs (List.mem_range.1 hf))
end
theorem get_flag (s : S) (c : Bool) : ({ s with ch := c } : S).get = s.get := by funext x; cases x <;> rfl
def iterG (round : S → S) : Nat → S → S
 | 0, s => s
 | n + 1, s => if s.ch then iterG round n (round s) else s
theorem iter_eqG (p : Prg) : ∀ n s, S.iter p n s = iterG (S.round p) n s
 | 0, _ => rfl
 | n + 1, s => by rw [S.iter, iterG, iter_eqG p n]
structure Ended (p : Prg) (C : Val → Prop) (I R : S → Prop) (s t : S) : Prop where
 sized : t.Sized p
 up : LeV s.get t.get
 low : ∀ V, C V → LeV s.get V → LeV t.get V
 kept : I t
 all : R t
theorem iterG_end {p : Prg} {C : Val → Prop} {I R : S → Prop} {round : S → S} (hr : ∀ s, s.Sized p → Up p C I { s with ch := false } (round s) R) (hI : ∀ s, I s → I { s with ch := false }) :
  ∀ (g : Nat) (s : S), s.Sized p → I s → s.ch = true → 4294967296 * p.slots + 1 ≤ g + s.meas → Ended p C I R s (iterG round g s)
 | 0, s, h, _, _, hg => by have := S.meas_le h; omega
 | g + 1, s, h, hi, hc, hg => by
  have u := hr s h;have hs := u.grows.sized;have hup := u.up;have hlo := u.low;rw [get_flag] at hup;simp only [get_flag] at hlo;have hik := u.kept (hI s hi);rw [iterG, if_pos hc]
  cases hc2 : (round s).ch with
  | true =>
   have hm : s.meas < (round s).meas := by
    rcases u.grows.ch hc2 with e | e
    ·cases e
    ·exact e
   have r := iterG_end hr hI g (round s) hs hik hc2 (by omega);exact ⟨r.sized, hup.trans r.up, fun V c le => r.low V c (hlo V c le), r.kept, r.all⟩
  | false =>
   have e : iterG round g (round s) = round s := by
    cases g with
    | zero => rfl
    | succ g => rw [iterG, if_neg (by rw [hc2]; decide)]
   rw [e];obtain ⟨e1, r1, -⟩ := u.still hc2;exact ⟨hs, hup, hlo, hik, by rw [e1]; exact r1⟩
theorem start_get (p : Prg) (x : Slot) : (startM p).get x = (false, 0) := by
 have hr : ∀ (n i : Nat), (List.replicate n ((false, 0) : Bool × BS)).getD i (false, 0) = (false, 0) := fun n i => by
  rw [List.getD_eq_getElem?_getD, List.getElem?_replicate];split <;> rfl
 cases x with
 | ent f => exact hr _ _
 | fin f => exact hr _ _
 | at_ f k =>
  simp only [S.get, startM];rw [List.getD_eq_getElem?_getD (l := p.funs.map _), List.getElem?_map]
  cases p.funs[f]? with
  | none => rfl
  | some x => exact hr _ _
theorem start_le (p : Prg) (V : Val) : LeV (startM p).get V := fun x => by
 rw [start_get];exact ⟨(nomatch ·), Sub.zero _⟩
theorem closed_of {p : Prg} {V : Val} (h0 : (V (.ent 0)).1 = true) (h1 : ∀ f, f < p.funs.length → (V (.ent f)).1 = true → 0 < p.len f → Has V (.at_ f 0) (V (.ent f)).2) (h2 : ∀ f ∈ List.range p.funs.length, FnC p V f) : Closed p V :=
 ⟨⟨h0, Sub.zero _⟩, h1, fun f hf a b => (h2 f (List.mem_range.2 hf)).1 b a, fun f k hf => (h2 f (List.mem_range.2 hf)).2 k⟩
theorem analysis_least {p : Prg} (hW : Wf p) : Closed p (analysis p).get ∧ ∀ V, Closed p V → LeV (analysis p).get V := by
 have u := up_enter (p := p) (C := Closed p) (fun V c => c) (startM_sized p) (f := 0) hW.funs.1 0 (fun V c _ => c.main);have hs := u.grows.sized;have hi : EntI p ((startM p).enter p 0 0) := u.kept fun f _ e => by rw [start_get] at e; cases e
 have hm : (((startM p).enter p 0 0).get (.ent 0)).1 = true := by
  unfold S.enter;dsimp only
  have h0 : ((startM p).grow (.ent 0) 0).get (.ent 0) = (true, 0) := by
   rw [S.get_grow (startM_sized p) (x := .ent 0) hW.funs.1, if_pos rfl, start_get]; rfl
  split
  ·rw [h0]
  ·rename_i hne
   rw [S.get_grow ((startM_sized p).grow _ _) (x := .at_ 0 0) ⟨hW.funs.1, by omega⟩, if_neg (by simp), h0]
 have r := iterG_end (fun s hs => up_round hW hs) (fun s h => by unfold EntI; rw [get_flag]; exact h) p.fuel { (startM p).enter p 0 0 with ch := true } ⟨hs.ent, hs.fin, hs.cell, hs.row⟩ (by unfold EntI; rw [get_flag]; exact hi) rfl (by unfold Prg.fuel; omega);rw [← iter_eqG] at r;have r : Ended p (Closed p) (EntI p) (fun z => ∀ f ∈ List.range p.funs.length, FnC p z.get f) { (startM p).enter p 0 0 with ch := true } (analysis p) := r;have hup := r.up;have hlo := r.low;rw [get_flag] at hup;simp only [get_flag] at hlo;exact ⟨closed_of ((hup _).1 hm) r.kept r.all, fun V c => hlo V c (u.low V c (start_le p V))⟩
end
end Go.Proofs.YtkpjdanfpolimaaGreat
