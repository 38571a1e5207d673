/- The analysis' sets hold locks alone: what they name are objects that are locks. Conditions: the program is well-formed. -/
import Derived.Test.YtkpjdanfpolimaaGreatLcLoT
set_option maxRecDepth 100000
namespace Go.Proofs.YtkpjdanfpolimaaGreat
open Go.RowKit
def Locks (p:Prg) (b:BS):Prop:=∀ i,b.getLsbD i=true→∃ o,p.obs[i]? = some o∧(o.kind=1∨o.kind=2)
theorem Locks.zero (p:Prg):Locks p 0:=fun i h=>by simp at h
theorem Locks.or {p:Prg} {a b:BS} (ha:Locks p a) (hb:Locks p b):Locks p (a ||| b):=fun i h=>by
 rw [BitVec.getLsbD_or,Bool.or_eq_true] at h;exact h.elim (ha i) (hb i)
theorem Locks.and {p:Prg} {a:BS} (ha:Locks p a) (b:BS):Locks p (a &&& b):=fun i h=>by
 rw [BitVec.getLsbD_and,Bool.and_eq_true] at h;exact ha i h.1
theorem bit_get (m i:Nat):(bit m).getLsbD i=true→i=m:=by
 unfold bit;rw [BitVec.getLsbD_shiftLeft];intro h;simp only [Bool.and_eq_true,decide_eq_true_eq,Bool.not_eq_true',decide_eq_false_iff_not,BitVec.getLsbD_one] at h;omega
theorem Locks.bit {p:Prg} {m:Nat} (h:∃ o,p.obs[m]? = some o∧(o.kind=1∨o.kind=2)):Locks p (bit m):=fun i e=>by rw [bit_get m i e]; exact h
theorem Locks.acq {p:Prg} {f:Fn} {i:Ins} (h:InsW p f i):Locks p (acqBit p i):=by
 unfold acqBit
 cases e:Go.Proofs.YtkpjdanfpolimaaGreat.acq p i with
 | none=>exact Locks.zero p
 | some l=>exact Locks.bit (acq_idx h e).2
theorem Locks.foldl {p:Prg} {α:Type} {step:BS→α→BS}:∀ (l:List α) (s:BS),Locks p s→(∀ (s:BS) (x:α),x∈l→Locks p s→Locks p (step s x))→Locks p (l.foldl step s)
 | [],_,h,_=>h
 | x::r,s,h,hs=>Locks.foldl r _ (hs s x (by simp) h) (fun s y hy=>hs s y (by simp [hy]))
section
variable {p:Prg} (hW:Wf p)
include hW
theorem ins_mem {f:Fn} (hf:f∈p.funs) {i:Ins} (hi:i∈f.code):InsW p f i:=by
 obtain ⟨n,hn,rfl⟩:=List.mem_iff_getElem.1 hf;obtain ⟨k,hk,rfl⟩:=List.mem_iff_getElem.1 hi;have hk2:k<p.len n:=by rw [Prg.len,fn_eq hn]; exact hk
 have h:=hW.ins n k hn hk2;obtain ⟨hk3,e⟩:=ins_eq hn hk2;rw [e,fn_eq hn] at h;exact h
theorem Locks.all:Locks p (allM p):=by
 unfold allM;refine Locks.foldl _ _ (Locks.zero p) (fun s f hf hs=>Locks.foldl _ _ hs (fun s i hi hs=>hs.or (Locks.acq (ins_mem hW hf hi))))
theorem Locks.clean:Locks p (cleanM p):=by
 unfold cleanM;refine Locks.foldl _ _ (Locks.zero p) (fun s f hf hs=>Locks.foldl _ _ hs (fun s i hi hs=>?_));split
 ·exact hs.or (Locks.acq (ins_mem hW hf hi))
 ·exact hs
end
structure Fine (p:Prg) (s:S):Prop where
 sized:s.Sized p
 get:∀ x,Locks p (s.get x).2
theorem Fine.grow {p:Prg} {s:S} (h:Fine p s) {x:Slot} (hx:x.In p) {l:BS} (hl:Locks p l):Fine p (s.grow x l):=
 ⟨h.sized.grow x l,fun y=>by
  rw [S.get_grow h.sized hx];split
  ·exact (h.get x).or hl
  ·exact h.get y⟩
theorem Fine.flag {p:Prg} {s:S} (h:Fine p s) (c:Bool):Fine p { s with ch:=c }:=⟨⟨h.sized.ent,h.sized.fin,h.sized.cell,h.sized.row⟩,fun x=>by
 have:=h.get x;cases x <;> exact this⟩
theorem Fine.foldl {p:Prg} {α:Type} {step:S→α→S}:∀ (l:List α) (s:S),Fine p s→(∀ (s:S) (x:α),x∈l→Fine p s→Fine p (step s x))→Fine p (l.foldl step s)
 | [],_,h,_=>h
 | x::r,s,h,hs=>Fine.foldl r _ (hs s x (by simp) h) (fun s y hy=>hs s y (by simp [hy]))
section
variable {p:Prg} (hW:Wf p)
theorem Fine.enter {s:S} (h:Fine p s) {f:Nat} (hf:f<p.funs.length) {l:BS} (hl:Locks p l):Fine p (s.enter p f l):=by
 unfold S.enter;have h1:=h.grow (x:=.ent f) hf hl;dsimp only;split
 ·exact h1
 ·exact h1.grow (x:=.at_ f 0) ⟨hf,by omega⟩ (h1.get _)
include hW
theorem Fine.behind {s:S} (h:Fine p s) {f k:Nat} (hf:f<p.funs.length) (hk:k<p.len f):Locks p (s.behind p f k).1:=by
 unfold S.behind;dsimp only;split
 ·exact h.get _
 ·split
  ·exact (h.get _).or (Locks.clean hW)
  ·split
   ·exact (h.get _).and _
   ·exact (h.get _).or (Locks.acq (hW.ins f k hf hk))
theorem Fine.leave {s:S} (h:Fine p s) {f:Nat} (hf:f<p.funs.length):Fine p (s.leave p f):=by
 unfold S.leave
 have h0:Fine p (if p.len f=0∧(s.get (.ent f)).1=true then s.grow (.fin f) (s.get (.ent f)).2 else s):=by
  split
  ·exact h.grow (x:=.fin f) hf (h.get _)
  ·exact h
 refine Fine.foldl _ _ h0 (fun s k hk hs=>?_);unfold S.leaveStep;split
 ·dsimp only
  have h1:Fine p (if (p.ins f k).op=16 then s.grow (.fin f) (s.get (.at_ f k)).2 else s):=by
   split
   ·exact hs.grow (x:=.fin f) hf (hs.get _)
   ·exact hs
  generalize (if (p.ins f k).op=16 then s.grow (.fin f) (s.get (.at_ f k)).2 else s)=s1 at h1 ⊢;split
  ·exact h1.grow (x:=.fin f) hf (Fine.behind hW h1 hf (List.mem_range.1 hk))
  ·exact h1
 ·exact hs
omit hW in
theorem Fine.visit {s:S} (h:Fine p s):∀ (n:Nat) (a:List Nat × BS) (f:Nat),Locks p a.2→Locks p (s.visit p n a f).2
 | 0,a,f,ha=>by unfold S.visit; exact ha
 | n+1,a,f,ha=>by
  unfold S.visit;split
  ·exact ha
  ·have key:∀ (l:List Nat) (a:List Nat × BS),Locks p a.2→Locks p (l.foldl (fun a k=>if (s.get (.at_ f k)).1 then (if (p.ins f k).op=15 then S.visit p s n (a.1,a.2 ||| (s.get (.at_ f k)).2) (p.ins f k).b.toNat else (a.1,a.2 ||| (s.get (.at_ f k)).2)) else a) a).2:=by
    intro l
    induction l with
    | nil=>exact fun a ha=>ha
    | cons k r ih=>
     intro a ha;rw [List.foldl_cons];refine ih _ ?_;split
     ·split
      ·exact Fine.visit h n _ _ (ha.or (h.get _))
      ·exact ha.or (h.get _)
     ·exact ha
   exact key _ _ ha
omit hW in
theorem Fine.within {s:S} (h:Fine p s) (f:Nat):Locks p (s.within p f):=h.visit _ _ _ (Locks.zero p)
theorem Fine.open_ {s:S} (h:Fine p s) {f k:Nat} (hf:f<p.funs.length) (hk:k<p.len f) (ho:(p.ins f k).op=35):Fine p (s.open_ p f k):=by
 obtain ⟨he0,he1⟩:=(hW.ins f k hf hk).open_ ho
 have hel:(p.ins f k).c.toNat<p.len f:=by
  have:(p.fn f).code.length=p.len f:=rfl;omega
 unfold S.open_;refine Fine.foldl _ _ (h.grow (x:=.at_ f (p.ins f k).c.toNat) ⟨hf,hel⟩ (Locks.clean hW)) (fun s j _ hs=>?_);unfold S.openStep;split
 ·dsimp only
  have h1:=hs.grow (x:=.at_ f (p.ins f k).c.toNat) ⟨hf,hel⟩ (hs.get (.at_ f j));split
  ·exact h1.grow (x:=.at_ f (p.ins f k).c.toNat) ⟨hf,hel⟩ (h1.within _)
  ·exact h1
 ·exact hs
theorem Fine.instruction {s:S} (h:Fine p s) {f k:Nat} (hf:f<p.funs.length) (hk:k<p.len f):Fine p (s.instruction p f k):=by
 rw [S.instruction_eq]
 have hb:(p.ins f k).op=15∨(p.ins f k).op=34∨(p.ins f k).op=17→(p.ins f k).b.toNat<p.funs.length:=fun e=>by
  obtain ⟨h0,h1⟩:=(hW.ins f k hf hk).call e;omega
 have h0:Fine p (s.first p f k):=by
  unfold S.first;split
  ·rename_i e; exact h.enter (hb (.inr (.inl e))) (Locks.zero p)
  ·split
   ·rename_i e; exact h.enter (hb (.inl e)) (h.get _)
   ·split
    ·rename_i e; exact h.enter (hb (.inr (.inr e))) (Locks.all hW)
    ·split
     ·rename_i e; exact Fine.open_ hW h hf hk e
     ·exact h
 unfold S.goOn;split
 ·exact Fine.foldl _ _ h0 (fun s j hj hs=>hs.grow (x:=.at_ f j) ⟨hf,nextM_lt hj⟩ (Fine.behind hW h0 hf hk))
 ·exact h0
theorem Fine.roundF {s:S} (h:Fine p s) {f:Nat} (hf:f<p.funs.length):Fine p (s.roundF p f):=by
 unfold S.roundF;refine Fine.leave hW (Fine.foldl _ _ h (fun s k hk hs=>?_)) hf;split
 ·exact Fine.instruction hW hs hf (List.mem_range.1 hk)
 ·exact hs
theorem Fine.round {s:S} (h:Fine p s):Fine p (s.round p):=by
 unfold S.round;exact Fine.foldl _ _ (h.flag false) (fun s f hf hs=>Fine.roundF hW hs (List.mem_range.1 hf))
theorem Fine.iter:∀ (n:Nat) {s:S},Fine p s→Fine p (S.iter p n s)
 | 0,_,h=>h
 | n+1,s,h=>by
  unfold S.iter;split
  ·exact Fine.iter n (Fine.round hW h)
  ·exact h
omit hW in
theorem startM_fine (p:Prg):Fine p (startM p):=⟨startM_sized p,fun x=>by
 have e:((startM p).get x).2=0:=by
  cases x with
  | ent f=>simp only [startM,S.get,List.getD_eq_getElem?_getD,List.getElem?_replicate]; split <;> rfl
  | fin f=>simp only [startM,S.get,List.getD_eq_getElem?_getD,List.getElem?_replicate]; split <;> rfl
  | at_ f k=>
   simp only [startM,S.get,List.getD_eq_getElem?_getD,List.getElem?_map]
   cases p.funs[f]? with
   | none=>rfl
   | some x=>simp only [Option.map_some,Option.getD_some,List.getElem?_replicate]; split <;> rfl
 rw [e]; exact Locks.zero p⟩
theorem analysis_fine:Fine p (analysis p):=Fine.iter hW _ (((startM_fine p).enter hW.funs.1 (Locks.zero p)).flag true)
end
end Go.Proofs.YtkpjdanfpolimaaGreat
