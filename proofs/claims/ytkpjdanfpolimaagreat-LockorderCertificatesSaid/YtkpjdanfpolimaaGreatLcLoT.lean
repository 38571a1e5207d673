/- The lock analysis in plain Lean: it comes to an end. Conditions: the program is well-forme · What begin has built so far, in memory; at its end it is the analysis' memory. Conditions: · lockorder's analyze, walked, from what begin leaves. C -/
import Derived.Test.YtkpjdanfpolimaaGreatLcLoIs
import Derived.Test.YtkpjdanfpolimaaGreatLcLoW
import Derived.Deep.OwnRows
import Derived.Deep.LoopGhost
set_option maxRecDepth 100000
set_option maxHeartbeats 6400000
namespace Go.Proofs.YtkpjdanfpolimaaGreat
section
open Go.RowKit Go.Shelf
def vNat (v:Bool × BS):Nat:=(if v.1 then 1 else 0)+v.2.toNat
def S.meas (s:S):Nat:=(s.ent.map vNat).sum+(s.fin.map vNat).sum+(s.cell.map (fun r=>(r.map vNat).sum)).sum
theorem sum_set {α:Type} (f:α→Nat):∀ (l:List α) (i:Nat) (h:i<l.length) (v:α),((l.set i v).map f).sum+f l[i]=(l.map f).sum+f v
 | x::r,0,_,v=>by simp; omega
 | x::r,i+1,h,v=>by
  have:=sum_set f r i (by simpa using h) v;simp at this ⊢;omega
theorem getD_eq {α:Type} (l:List α) (i:Nat) (h:i<l.length) (d:α):l.getD i d=l[i]:=by simp [h]
theorem S.meas_set {p:Prg} {s:S} (h:s.Sized p) {x:Slot} (hx:x.In p) (v:Bool × BS):(s.set x v).meas+vNat (s.get x)=s.meas+vNat v:=by
 cases x with
 | ent f=>
  have hf:f<s.ent.length:=by rw [h.ent]; exact hx
  have:=sum_set vNat s.ent f hf v;simp only [S.meas,S.set,S.get,getD_eq _ _ hf];omega
 | fin f=>
  have hf:f<s.fin.length:=by rw [h.fin]; exact hx
  have:=sum_set vNat s.fin f hf v;simp only [S.meas,S.set,S.get,getD_eq _ _ hf];omega
 | at_ f k=>
  have hf:f<s.cell.length:=by rw [h.cell]; exact hx.1
  have hr:=h.row f hx.1;have hk:k<(s.cell.getD f []).length:=by rw [hr]; exact hx.2
  have h1:=sum_set vNat (s.cell.getD f []) k hk v;have h2:=sum_set (fun r:List (Bool × BS)=>(r.map vNat).sum) s.cell f hf ((s.cell.getD f []).set k v);rw [← getD_eq s.cell f hf []] at h2;simp only [S.meas,S.set,S.get,getD_eq _ _ hk];omega
structure Grows (p:Prg) (s t:S):Prop where
 sized:t.Sized p
 le:s.meas≤t.meas
 ch:t.ch=true→s.ch=true∨s.meas<t.meas
theorem Grows.refl {p:Prg} {s:S} (h:s.Sized p):Grows p s s:=⟨h,Nat.le_refl _,fun e=>.inl e⟩
theorem Grows.trans {p:Prg} {a b c:S} (h1:Grows p a b) (h2:Grows p b c):Grows p a c:=
 ⟨h2.sized,Nat.le_trans h1.le h2.le,fun e=>by
  rcases h2.ch e with e | e
  ·rcases h1.ch e with e | e
   ·exact .inl e
   ·exact .inr (Nat.lt_of_lt_of_le e h2.le)
  ·exact .inr (Nat.lt_of_le_of_lt h1.le e)⟩
theorem or_le (a b:BS):a.toNat≤(a ||| b).toNat:=by rw [BitVec.toNat_or]; exact Nat.left_le_or
theorem Grows.grow {p:Prg} {s:S} (h:s.Sized p) {x:Slot} (hx:x.In p) (l:BS):Grows p s (s.grow x l):=by
 have hm:=S.meas_set h hx (true,(s.get x).2 ||| l);have hmm:(s.grow x l).meas=(s.set x (true,(s.get x).2 ||| l)).meas:=rfl;have ho:=or_le (s.get x).2 l;refine ⟨h.grow x l,?_,fun e=>?_⟩
 ·rw [hmm]
  simp only [vNat,if_true] at hm;split at hm <;> omega
 ·have e:(s.ch || !(s.get x).1 || (s.get x).2 ||| l != (s.get x).2)=true:=e
  rw [Bool.or_eq_true,Bool.or_eq_true] at e;rcases e with (e | e) | e
  ·exact .inl e
  ·right
   have e:(s.get x).1=false:=by simpa using e
   rw [hmm];simp only [vNat,if_true,e,Bool.false_eq_true,if_false] at hm;omega
  ·right
   have e:(s.get x).2 ||| l≠(s.get x).2:=by simpa using e
   have hne:((s.get x).2 ||| l).toNat≠((s.get x).2).toNat:=fun z=>e (BitVec.eq_of_toNat_eq z)
   rw [hmm];simp only [vNat,if_true] at hm;split at hm <;> omega
theorem Grows.foldl {p:Prg} {α:Type} {step:S→α→S}:∀ (l:List α) (s:S),s.Sized p→(∀ (s:S) (x:α),x∈l→s.Sized p→Grows p s (step s x))→Grows p s (l.foldl step s)
 | [],_,h,_=>Grows.refl h
 | x::r,s,h,hs=>(hs s x (by simp) h).trans (Grows.foldl r _ (hs s x (by simp) h).sized (fun s y hy=>hs s y (by simp [hy])))
section
variable {p:Prg} (hW:Wf p)
include hW
omit hW in
theorem Grows.enter {s:S} (h:s.Sized p) {f:Nat} (hf:f<p.funs.length) (l:BS):Grows p s (s.enter p f l):=by
 unfold S.enter;have h1:=Grows.grow h (x:=.ent f) hf l;dsimp only;split
 ·exact h1
 ·rename_i h0
  exact h1.trans (Grows.grow h1.sized (x:=.at_ f 0) ⟨hf,by omega⟩ _)
omit hW in
theorem Grows.leave {s:S} (h:s.Sized p) {f:Nat} (hf:f<p.funs.length):Grows p s (s.leave p f):=by
 unfold S.leave
 have h0:Grows p s (if p.len f=0∧(s.get (.ent f)).1=true then s.grow (.fin f) (s.get (.ent f)).2 else s):=by
  split
  ·exact Grows.grow h (x:=.fin f) hf _
  ·exact Grows.refl h
 refine h0.trans (Grows.foldl _ _ h0.sized (fun s k _ hs=>?_));unfold S.leaveStep;split
 ·dsimp only
  have h1:Grows p s (if (p.ins f k).op=16 then s.grow (.fin f) (s.get (.at_ f k)).2 else s):=by
   split
   ·exact Grows.grow hs (x:=.fin f) hf _
   ·exact Grows.refl hs
  generalize (if (p.ins f k).op=16 then s.grow (.fin f) (s.get (.at_ f k)).2 else s)=s1 at h1 ⊢;split
  ·exact h1.trans (Grows.grow h1.sized (x:=.fin f) hf _)
  ·exact h1
 ·exact Grows.refl hs
theorem Grows.open_ {s:S} (h:s.Sized p) {f k:Nat} (hf:f<p.funs.length) (hk:k<p.len f) (ho:(p.ins f k).op=35):Grows p s (s.open_ p f k):=by
 obtain ⟨he0,he1⟩:=(hW.ins f k hf hk).open_ ho
 have hel:(p.ins f k).c.toNat<p.len f:=by
  have:(p.fn f).code.length=p.len f:=rfl;omega
 unfold S.open_;have h0:=Grows.grow h (x:=.at_ f (p.ins f k).c.toNat) ⟨hf,hel⟩ (cleanM p);refine h0.trans (Grows.foldl _ _ h0.sized (fun s j _ hs=>?_));unfold S.openStep;split
 ·dsimp only
  have h1:=Grows.grow hs (x:=.at_ f (p.ins f k).c.toNat) ⟨hf,hel⟩ (s.get (.at_ f j)).2;split
  ·exact h1.trans (Grows.grow h1.sized (x:=.at_ f (p.ins f k).c.toNat) ⟨hf,hel⟩ _)
  ·exact h1
 ·exact Grows.refl hs
theorem Grows.instruction {s:S} (h:s.Sized p) {f k:Nat} (hf:f<p.funs.length) (hk:k<p.len f):Grows p s (s.instruction p f k):=by
 rw [S.instruction_eq]
 have hb:(p.ins f k).op=15∨(p.ins f k).op=34∨(p.ins f k).op=17→(p.ins f k).b.toNat<p.funs.length:=fun e=>by
  obtain ⟨h0,h1⟩:=(hW.ins f k hf hk).call e;omega
 have h0:Grows p s (s.first p f k):=by
  unfold S.first;split
  ·rename_i e; exact Grows.enter h (hb (.inr (.inl e))) _
  ·split
   ·rename_i e; exact Grows.enter h (hb (.inl e)) _
   ·split
    ·rename_i e; exact Grows.enter h (hb (.inr (.inr e))) _
    ·split
     ·rename_i e; exact Grows.open_ hW h hf hk e
     ·exact Grows.refl h
 unfold S.goOn;split
 ·exact h0.trans (Grows.foldl _ _ h0.sized (fun s j hj hs=>Grows.grow hs (x:=.at_ f j) ⟨hf,nextM_lt hj⟩ _))
 ·exact h0
theorem Grows.roundF {s:S} (h:s.Sized p) {f:Nat} (hf:f<p.funs.length):Grows p s (s.roundF p f):=by
 unfold S.roundF
 have h0:Grows p s ((List.range (p.len f)).foldl (fun s k=>if (s.get (.at_ f k)).1 then s.instruction p f k else s) s):=
  Grows.foldl _ _ h (fun s k hk hs=>by
   split
   ·exact Grows.instruction hW hs hf (List.mem_range.1 hk)
   ·exact Grows.refl hs)
 exact h0.trans (Grows.leave h0.sized hf)
theorem Grows.round {s:S} (h:s.Sized p):Grows p { s with ch:=false } (s.round p):=by
 unfold S.round;exact Grows.foldl _ _ ⟨h.ent,h.fin,h.cell,h.row⟩ (fun s f hf hs=>Grows.roundF hW hs (List.mem_range.1 hf))
end
def Prg.slots (p:Prg):Nat:=2 * p.funs.length+(p.funs.map (fun f=>f.code.length)).sum
theorem sum_le {α:Type} (f:α→Nat) (b:Nat):∀ l:List α,(∀ x∈l,f x≤b)→(l.map f).sum≤l.length * b
 | [],_=>by simp
 | x::r,h=>by
  have:=sum_le f b r (fun y hy=>h y (by simp [hy]));have h1:=h x (by simp);simp only [List.map_cons,List.sum_cons,List.length_cons,Nat.add_mul];omega
theorem vNat_le (v:Bool × BS):vNat v≤4294967296:=by
 unfold vNat;have:v.2.toNat<4294967296:=v.2.isLt;split <;> omega
theorem cell_sum {p:Prg}:∀ (c:List (List (Bool × BS))) (fs:List Fn),c.length=fs.length→(∀ i (h1:i<c.length) (h2:i<fs.length),c[i].length=fs[i].code.length)→(c.map (fun r=>(r.map vNat).sum)).sum≤4294967296 * (fs.map (fun f=>f.code.length)).sum
 | [],[],_,_=>by simp
 | r::c,f::fs,hl,h=>by
  have:=cell_sum (p:=p) c fs (by simpa using hl) (fun i h1 h2=>h (i+1) (by simpa using h1) (by simpa using h2));have h0:r.length=f.code.length:=h 0 (by simp) (by simp);have h1:=sum_le vNat 4294967296 r (fun v _=>vNat_le v);simp only [List.map_cons,List.sum_cons,Nat.mul_add];rw [h0] at h1;omega
theorem S.meas_le {p:Prg} {s:S} (h:s.Sized p):s.meas≤4294967296 * p.slots:=by
 have h1:=sum_le vNat 4294967296 s.ent (fun v _=>vNat_le v);have h2:=sum_le vNat 4294967296 s.fin (fun v _=>vNat_le v)
 have h3:=cell_sum (p:=p) s.cell p.funs h.cell (fun i hi1 hi2=>by
  have:=h.row i hi2;rw [getD_eq _ _ hi1] at this;rw [this,Prg.len,fn_eq hi2])
 rw [h.ent] at h1;rw [h.fin] at h2;unfold S.meas Prg.slots;rw [Nat.mul_add];omega
def Prg.fuel (p:Prg):Nat:=4294967296 * p.slots+2
def analysis (p:Prg):S:=S.iter p p.fuel { (startM p).enter p 0 0 with ch:=true }
theorem startM_sized (p:Prg):(startM p).Sized p:=
 ⟨by simp [startM],by simp [startM],by simp [startM],fun f hf=>by
  simp only [startM];rw [getD_eq _ _ (by simpa using hf)];simp [Prg.len,fn_eq hf]⟩
structure Going (p:Prg) (g:Nat) (s:S):Prop where
 sized:s.Sized p
 eq:S.iter p g s=analysis p
 fuel:s.ch=true→4294967296 * p.slots+1≤g+s.meas
theorem Going.start {p:Prg} (hW:Wf p):Going p p.fuel { (startM p).enter p 0 0 with ch:=true }:=
 have h:=(Grows.enter (startM_sized p) hW.funs.1 0).sized
 ⟨⟨h.ent,h.fin,h.cell,h.row⟩,rfl,fun _=>by unfold Prg.fuel; omega⟩
theorem Going.next {p:Prg} (hW:Wf p) {g:Nat} {s:S} (h:Going p g s) (hc:s.ch=true):∃ g',g=g'+1∧Going p g' (s.round p):=by
 have h1:=S.meas_le h.sized;have h2:=h.fuel hc;obtain ⟨g',rfl⟩:∃ g',g=g'+1:=⟨g - 1,by omega⟩
 have hr:=Grows.round hW h.sized;refine ⟨g',rfl,hr.sized,?_,fun e=>?_⟩
 ·rw [← h.eq,S.iter,if_pos hc]
 ·rcases hr.ch e with e | e
  ·cases e
  ·have e:s.meas<(s.round p).meas:=e
   omega
theorem Going.done {p:Prg} {g:Nat} {s:S} (h:Going p g s) (hc:s.ch=false):s=analysis p:=by
 rw [← h.eq]
 cases g with
 | zero=>rfl
 | succ g=>rw [S.iter,if_neg (by rw [hc]; decide)]
end
section
open Go.RowKit
structure Fam (base e te:Nat) (z:Value) (p:Prg) (W:World) (v:Value) (blk:Nat→Nat) (j:Nat):Prop where
 own:W.ownsRow base e 1 v j ((List.range j).map fun f=>.slice (some ⟨blk f,0,none⟩) (p.len f) (p.len f))
 row:∀ f,f<j→W.rowIs (blk f) te (p.len f) (fun _=>z)
 rng:∀ f,f<j→base≤blk f
theorem Fam.nil (base e te:Nat) (z:Value) (p:Prg) (W:World) (blk:Nat→Nat):Fam base e te z p W (.slice none 0 0) blk 0:=
 ⟨World.ownsRow_nil _ _ _ _,fun f hf=>by omega,fun f hf=>by omega⟩
section
variable {base e te:Nat} {z:Value} {p:Prg} {W W':World} {v v':Value} {blk:Nat→Nat} {j:Nat}
theorem Fam.kept (h:Fam base e te z p W v blk j) {row:Option Nat} (hg:W.grownBy W' row) (hv:v.ownBlock=none∨v.ownBlock≠row) (hb:∀ f,f<j→some (blk f)≠row):Fam base e te z p W' v blk j:=
 ⟨h.own.kept hg hv,fun f hf=>(h.row f hf).of_block (hg.block _ (h.row f hf).lt (hb f hf)),h.rng⟩
theorem Fam.none_ (h:Fam base e te z p W v blk j) (hg:W.grownBy W' none):Fam base e te z p W' v blk j:=
 h.kept hg (by cases v.ownBlock <;> simp) (fun _ _=>by simp)
end
def bCells (p:Prg) (E Wn N F:Nat) (al cl:BS) (vR vB:Value):Array Value:=
 #[.slice p.funA p.funs.length p.funC,.slice p.obA p.obs.length p.obC,.slice p.vrA p.vrs.length p.vrC,sv al,sv cl,.slice (some ⟨E,0,none⟩) p.funs.length p.funs.length,.slice (some ⟨Wn,0,none⟩) p.funs.length p.funs.length,.slice (some ⟨N,0,none⟩) p.funs.length p.funs.length,.slice (some ⟨F,0,none⟩) p.funs.length p.funs.length,vR,vB,.bool false]
structure BTag (t:Nat→Nat × Nat) (A E Wn N F:Nat) (vR vB:Value) (rb bb:Nat→Nat) (j m:Nat):Prop where
 a:t A=(0,0)
 e:t E=(1,0)
 w:t Wn=(2,0)
 n:t N=(3,0)
 f:t F=(4,0)
 r:∀ g,vR.ownBlock=some g→t g=(5,0)
 b:∀ g,vB.ownBlock=some g→t g=(6,0)
 rb:∀ f,f<j→t (rb f)=(7,f)
 bb:∀ f,f<m→t (bb f)=(8,f)
structure Beg (p:Prg) (lo A E Wn N F:Nat) (rb bb:Nat→Nat) (vR vB:Value) (j m:Nat) (al cl:BS) (W:World):Prop where
 tag:∃ t,BTag t A E Wn N F vR vB rb bb j m
 hdr:W.heap[A]? = some (.cells (bCells p E Wn N F al cl vR vB) 88 (0,0))
 rE:W.rowIs E 4 p.funs.length (fun _=>.bool false)
 rW:W.rowIs Wn 84 p.funs.length (fun _=>sv 0)
 rN:W.rowIs N 4 p.funs.length (fun _=>.bool false)
 rF:W.rowIs F 84 p.funs.length (fun _=>sv 0)
 fR:Fam lo 82 4 (.bool false) p W vR rb j
 fB:Fam lo 79 84 (sv 0) p W vB bb m
 rng:lo≤A∧lo≤E∧lo≤Wn∧lo≤N∧lo≤F
section
variable {p:Prg} {lo A E Wn N F:Nat} {rb bb:Nat→Nat} {vR vB:Value} {j m:Nat} {al cl:BS} {W W':World}
theorem Beg.hlt (h:Beg p lo A E Wn N F rb bb vR vB j m al cl W):A<W.heap.size:=by
 obtain ⟨hlt,_⟩:=Array.getElem?_eq_some_iff.1 h.hdr;exact hlt
theorem Beg.none_ (h:Beg p lo A E Wn N F rb bb vR vB j m al cl W) (hg:W.grownBy W' none):Beg p lo A E Wn N F rb bb vR vB j m al cl W':=
 ⟨h.tag,(hg.block _ h.hlt (by simp)).trans h.hdr,h.rE.of_block (hg.block _ h.rE.lt (by simp)),h.rW.of_block (hg.block _ h.rW.lt (by simp)),h.rN.of_block (hg.block _ h.rN.lt (by simp)),h.rF.of_block (hg.block _ h.rF.lt (by simp)),h.fR.none_ hg,h.fB.none_ hg,h.rng⟩
theorem Beg.below (h:Beg p lo A E Wn N F rb bb vR vB j m al cl W) (hb:Below W.heap.size W W'):Beg p lo A E Wn N F rb bb vR vB j m al cl W':=
 h.none_ ⟨hb.os,hb.tape,hb.output,hb.size,fun k hk _=>hb.block k hk⟩
theorem Beg.cell (h:Beg p lo A E Wn N F rb bb vR vB j m al cl W) {k:Nat} {v:Value} (hv:(bCells p E Wn N F al cl vR vB)[k]? = some v):W.cell? ⟨A,k,none⟩=some v:=by
 have:=h.hdr;simp only [World.cell?,this];simpa using hv
theorem Beg.frozen (h:Beg p lo A E Wn N F rb bb vR vB j m al cl W) (k:Nat):W.frozen? ⟨A,k,none⟩=false:=by
 have:=h.hdr;simp [World.frozen?,this]
theorem Beg.stored (h:Beg p lo A E Wn N F rb bb vR vB j m al cl W) (k:Nat) (v:Value) (al' cl':BS) (hc:(bCells p E Wn N F al cl vR vB).setIfInBounds k v=bCells p E Wn N F al' cl' vR vB):Beg p lo A E Wn N F rb bb vR vB j m al' cl' (W.setCell ⟨A,k,none⟩ v):=by
 have hg:W.grownBy (W.setCell ⟨A,k,none⟩ v) (some A):=⟨rfl,rfl,rfl,by simp,fun b _ hb=>heap_setCell_other _ _ _ _ (fun e=>hb (by rw [e]))⟩
 obtain ⟨t,ht⟩:=h.tag;have hne:∀ b x,t b=x→x≠(0,0)→b≠A:=fun b x hb hx e=>hx (by rw [← hb,e,ht.a])
 refine ⟨⟨t,ht⟩,?_,h.rE.setOther (hne _ _ ht.e (by simp)) _,h.rW.setOther (hne _ _ ht.w (by simp)) _,h.rN.setOther (hne _ _ ht.n (by simp)) _,h.rF.setOther (hne _ _ ht.f (by simp)) _,h.fR.kept hg ?_ ?_,h.fB.kept hg ?_ ?_,h.rng⟩
 ·rw [heap_setCell_same W A k _ _ _ h.hdr,hc]
 ·cases ho:vR.ownBlock with
  | none=>exact .inl rfl
  | some g=>exact .inr (fun e=>by injection e with e; exact hne _ _ (ht.r g ho) (by simp) e)
 ·intro f hf e; injection e with e; exact hne _ _ (ht.rb f hf) (by simp) e
 ·cases ho:vB.ownBlock with
  | none=>exact .inl rfl
  | some g=>exact .inr (fun e=>by injection e with e; exact hne _ _ (ht.b g ho) (by simp) e)
 ·intro f hf e; injection e with e; exact hne _ _ (ht.bb f hf) (by simp) e
theorem Beg.all (h:Beg p lo A E Wn N F rb bb vR vB j m al cl W) (x:BS):Beg p lo A E Wn N F rb bb vR vB j m x cl (W.setCell ⟨A,3,none⟩ (sv x)):=h.stored 3 _ _ _ (by simp [bCells])
theorem Beg.clean (h:Beg p lo A E Wn N F rb bb vR vB j m al cl W) (x:BS):Beg p lo A E Wn N F rb bb vR vB j m al x (W.setCell ⟨A,4,none⟩ (sv x)):=h.stored 4 _ _ _ (by simp [bCells])
theorem Beg.pushR {W1 W3:World} {r:Nat} {v':Value} (h:Beg p lo A E Wn N F rb bb vR vB j m al cl W) (h1:Beg p lo A E Wn N F rb bb vR vB j m al cl W1) (hr:r=W.heap.size) (hr1:W1.rowIs r 4 (p.len j) (fun _=>.bool false))
  (hg:W1.grownBy W3 vR.ownBlock) (hv:v'.ownBlock=vR.ownBlock∨v'.ownBlock=some W1.heap.size)
  (ho:W3.ownsRow lo 82 1 v' (j+1) (((List.range j).map fun f=>.slice (some ⟨rb f,0,none⟩) (p.len f) (p.len f))++[.slice (some ⟨r,0,none⟩) (p.len j) (p.len j)])) (hlo:lo≤r) :
  Beg p lo A E Wn N F (fun f=>if f=j then r else rb f) bb v' vB (j+1) m al cl (W3.setCell ⟨A,9,none⟩ v'):=by
 obtain ⟨t,ht⟩:=h.tag;have hrl:=hr1.lt;have hN:∀ b,b<W.heap.size→b≠r∧b≠W1.heap.size:=fun b hb=>⟨by omega,by omega⟩
 have hz0:=h.hlt;have hzE:=h.rE.lt;have hzW:=h.rW.lt;have hzN:=h.rN.lt;have hzF:=h.rF.lt;have hzr:=fun f hf=>(h.fR.row f hf).lt
 have hzb:=fun f hf=>(h.fB.row f hf).lt
 have hzR:=fun g e=>(h.fR.own.lt g e).2
 have hzB:=fun g e=>(h.fB.own.lt g e).2
 have hA2:∀ b x,t b=x→x≠(5,0)→some b≠vR.ownBlock:=fun b x hb hx e=>hx (by rw [← hb,ht.r b e.symm])
 have hA0:∀ b x,t b=x→x≠(0,0)→b≠A:=fun b x hb hx e=>hx (by rw [← hb,e,ht.a])
 have hrA:r≠A:=by omega
 have hrv:some r≠vR.ownBlock:=fun e=>by have:=hzR r e.symm; omega
 have hvA:∀ g,v'.ownBlock=some g→g≠A:=by
  intro g e e2;rcases hv with hv | hv
  ·exact hA0 g _ (ht.r g (hv ▸ e)) (by simp) e2
  ·rw [hv] at e; injection e with e; have:=h1.hlt; omega
 have hgA:W3.grownBy (W3.setCell ⟨A,9,none⟩ v') (some A):=⟨rfl,rfl,rfl,by simp,fun b _ hb=>heap_setCell_other _ _ _ _ (fun e=>hb (by rw [e]))⟩
 have hrow:∀ (b e:Nat) (n:Nat) (g:Nat→Value),W1.rowIs b e n g→some b≠vR.ownBlock→b≠A→(W3.setCell ⟨A,9,none⟩ v').rowIs b e n g:=fun b e n g hb h2 h3=>(hb.of_block (hg.block _ hb.lt h2)).setOther h3 _
 refine ⟨⟨fun b=>if b=r then (7,j) else if v'.ownBlock=some b then (5,0) else t b,?_⟩,?_,?_,?_,?_,?_,?_,?_,h.rng⟩
 ·have hk:∀ b,b<W.heap.size→some b≠vR.ownBlock→(if b=r then ((7,j):Nat × Nat) else if v'.ownBlock=some b then (5,0) else t b)=t b:=fun b hb h2=>by
   rw [if_neg (hN b hb).1,if_neg];intro e;rcases hv with hv | hv
   ·exact h2 (by rw [← hv]; exact e.symm)
   ·rw [hv] at e; injection e with e; exact (hN b hb).2 e.symm
  constructor
  ·exact (hk A hz0 (hA2 _ _ ht.a (by simp))).trans ht.a
  ·exact (hk E hzE (hA2 _ _ ht.e (by simp))).trans ht.e
  ·exact (hk Wn hzW (hA2 _ _ ht.w (by simp))).trans ht.w
  ·exact (hk N hzN (hA2 _ _ ht.n (by simp))).trans ht.n
  ·exact (hk F hzF (hA2 _ _ ht.f (by simp))).trans ht.f
  ·intro g e
   rw [if_neg,if_pos e];intro e2;rcases hv with hv | hv
   ·exact hrv (by rw [← hv,e,e2])
   ·rw [hv] at e; injection e with e; omega
  ·intro g e
   exact (hk g (hzB g e) (hA2 _ _ (ht.b g e) (by simp))).trans (ht.b g e)
  ·intro f hf
   by_cases e:f=j
   ·subst e; simp
   ·have hf':f<j:=by omega
    simp only [if_neg e];exact (hk (rb f) (hzr f hf') (hA2 _ _ (ht.rb f hf') (by simp))).trans (ht.rb f hf')
  ·intro f hf
   exact (hk (bb f) (hzb f hf) (hA2 _ _ (ht.bb f hf) (by simp))).trans (ht.bb f hf)
 ·have e3:W3.heap[A]? = some (.cells (bCells p E Wn N F al cl vR vB) 88 (0,0)):=(hg.block _ h1.hlt (hA2 _ _ ht.a (by simp))).trans h1.hdr
  rw [heap_setCell_same W3 A 9 _ _ _ e3];simp [bCells]
 ·exact hrow _ _ _ _ h1.rE (hA2 _ _ ht.e (by simp)) (hA0 _ _ ht.e (by simp))
 ·exact hrow _ _ _ _ h1.rW (hA2 _ _ ht.w (by simp)) (hA0 _ _ ht.w (by simp))
 ·exact hrow _ _ _ _ h1.rN (hA2 _ _ ht.n (by simp)) (hA0 _ _ ht.n (by simp))
 ·exact hrow _ _ _ _ h1.rF (hA2 _ _ ht.f (by simp)) (hA0 _ _ ht.f (by simp))
 ·refine ⟨?_,?_,?_⟩
  ·have e4:(List.range (j+1)).map (fun f=>Value.slice (some ⟨if f=j then r else rb f,0,none⟩) (p.len f) (p.len f))=((List.range j).map fun f=>.slice (some ⟨rb f,0,none⟩) (p.len f) (p.len f))++[.slice (some ⟨r,0,none⟩) (p.len j) (p.len j)]:=by
    rw [List.range_succ,List.map_append];congr 1
    ·exact List.map_congr_left fun f hf=>by rw [if_neg (by have:=List.mem_range.1 hf; omega)]
    ·simp
   rw [e4];refine ho.kept hgA ?_
   cases e:v'.ownBlock with
   | none=>exact .inl rfl
   | some g=>exact .inr (fun e2=>by injection e2 with e2; exact hvA g e e2)
  ·intro f hf
   by_cases e:f=j
   ·subst e; simp only [if_pos]; exact hrow _ _ _ _ hr1 hrv hrA
   ·have hf':f<j:=by omega
    simp only [if_neg e];exact hrow _ _ _ _ (h1.fR.row f hf') (hA2 _ _ (ht.rb f hf') (by simp)) (hA0 _ _ (ht.rb f hf') (by simp))
  ·intro f hf
   by_cases e:f=j
   ·subst e; simp only [if_pos]; exact hlo
   ·simp only [if_neg e]; exact h1.fR.rng f (by omega)
 ·refine (h1.fB.kept hg ?_ ?_).kept hgA ?_ ?_
  ·cases e:vB.ownBlock with
   | none=>exact .inl rfl
   | some g=>exact .inr (fun e2=>hA2 _ _ (ht.b g e) (by simp) e2)
  ·intro f hf; exact hA2 _ _ (ht.bb f hf) (by simp)
  ·cases e:vB.ownBlock with
   | none=>exact .inl rfl
   | some g=>exact .inr (fun e2=>by injection e2 with e2; exact hA0 _ _ (ht.b g e) (by simp) e2)
  ·intro f hf e2; injection e2 with e2; exact hA0 _ _ (ht.bb f hf) (by simp) e2
theorem Beg.pushB {W1 W3:World} {r:Nat} {v':Value} (h:Beg p lo A E Wn N F rb bb vR vB j m al cl W) (h1:Beg p lo A E Wn N F rb bb vR vB j m al cl W1) (hr:r=W.heap.size) (hr1:W1.rowIs r 84 (p.len m) (fun _=>sv 0))
  (hg:W1.grownBy W3 vB.ownBlock) (hv:v'.ownBlock=vB.ownBlock∨v'.ownBlock=some W1.heap.size)
  (ho:W3.ownsRow lo 79 1 v' (m+1) (((List.range m).map fun f=>.slice (some ⟨bb f,0,none⟩) (p.len f) (p.len f))++[.slice (some ⟨r,0,none⟩) (p.len m) (p.len m)])) (hlo:lo≤r) :
  Beg p lo A E Wn N F rb (fun f=>if f=m then r else bb f) vR v' j (m+1) al cl (W3.setCell ⟨A,10,none⟩ v'):=by
 obtain ⟨t,ht⟩:=h.tag;have hrl:=hr1.lt;have hN:∀ b,b<W.heap.size→b≠r∧b≠W1.heap.size:=fun b hb=>⟨by omega,by omega⟩
 have hz0:=h.hlt;have hzE:=h.rE.lt;have hzW:=h.rW.lt;have hzN:=h.rN.lt;have hzF:=h.rF.lt;have hzb:=fun f hf=>(h.fB.row f hf).lt
 have hzr:=fun f hf=>(h.fR.row f hf).lt
 have hzB:=fun g e=>(h.fB.own.lt g e).2
 have hzR:=fun g e=>(h.fR.own.lt g e).2
 have hA2:∀ b x,t b=x→x≠(6,0)→some b≠vB.ownBlock:=fun b x hb hx e=>hx (by rw [← hb,ht.b b e.symm])
 have hA0:∀ b x,t b=x→x≠(0,0)→b≠A:=fun b x hb hx e=>hx (by rw [← hb,e,ht.a])
 have hrA:r≠A:=by omega
 have hrv:some r≠vB.ownBlock:=fun e=>by have:=hzB r e.symm; omega
 have hvA:∀ g,v'.ownBlock=some g→g≠A:=by
  intro g e e2;rcases hv with hv | hv
  ·exact hA0 g _ (ht.b g (hv ▸ e)) (by simp) e2
  ·rw [hv] at e; injection e with e; have:=h1.hlt; omega
 have hgA:W3.grownBy (W3.setCell ⟨A,10,none⟩ v') (some A):=⟨rfl,rfl,rfl,by simp,fun b _ hb=>heap_setCell_other _ _ _ _ (fun e=>hb (by rw [e]))⟩
 have hrow:∀ (b e:Nat) (n:Nat) (g:Nat→Value),W1.rowIs b e n g→some b≠vB.ownBlock→b≠A→(W3.setCell ⟨A,10,none⟩ v').rowIs b e n g:=fun b e n g hb h2 h3=>(hb.of_block (hg.block _ hb.lt h2)).setOther h3 _
 refine ⟨⟨fun b=>if b=r then (8,m) else if v'.ownBlock=some b then (6,0) else t b,?_⟩,?_,?_,?_,?_,?_,?_,?_,h.rng⟩
 ·have hk:∀ b,b<W.heap.size→some b≠vB.ownBlock→(if b=r then ((8,m):Nat × Nat) else if v'.ownBlock=some b then (6,0) else t b)=t b:=fun b hb h2=>by
   rw [if_neg (hN b hb).1,if_neg];intro e;rcases hv with hv | hv
   ·exact h2 (by rw [← hv]; exact e.symm)
   ·rw [hv] at e; injection e with e; exact (hN b hb).2 e.symm
  constructor
  ·exact (hk A hz0 (hA2 _ _ ht.a (by simp))).trans ht.a
  ·exact (hk E hzE (hA2 _ _ ht.e (by simp))).trans ht.e
  ·exact (hk Wn hzW (hA2 _ _ ht.w (by simp))).trans ht.w
  ·exact (hk N hzN (hA2 _ _ ht.n (by simp))).trans ht.n
  ·exact (hk F hzF (hA2 _ _ ht.f (by simp))).trans ht.f
  ·intro g e
   exact (hk g (hzR g e) (hA2 _ _ (ht.r g e) (by simp))).trans (ht.r g e)
  ·intro g e
   rw [if_neg,if_pos e];intro e2;rcases hv with hv | hv
   ·exact hrv (by rw [← hv,e,e2])
   ·rw [hv] at e; injection e with e; omega
  ·intro f hf
   exact (hk (rb f) (hzr f hf) (hA2 _ _ (ht.rb f hf) (by simp))).trans (ht.rb f hf)
  ·intro f hf
   by_cases e:f=m
   ·subst e; simp
   ·have hf':f<m:=by omega
    simp only [if_neg e];exact (hk (bb f) (hzb f hf') (hA2 _ _ (ht.bb f hf') (by simp))).trans (ht.bb f hf')
 ·have e3:W3.heap[A]? = some (.cells (bCells p E Wn N F al cl vR vB) 88 (0,0)):=(hg.block _ h1.hlt (hA2 _ _ ht.a (by simp))).trans h1.hdr
  rw [heap_setCell_same W3 A 10 _ _ _ e3];simp [bCells]
 ·exact hrow _ _ _ _ h1.rE (hA2 _ _ ht.e (by simp)) (hA0 _ _ ht.e (by simp))
 ·exact hrow _ _ _ _ h1.rW (hA2 _ _ ht.w (by simp)) (hA0 _ _ ht.w (by simp))
 ·exact hrow _ _ _ _ h1.rN (hA2 _ _ ht.n (by simp)) (hA0 _ _ ht.n (by simp))
 ·exact hrow _ _ _ _ h1.rF (hA2 _ _ ht.f (by simp)) (hA0 _ _ ht.f (by simp))
 ·refine (h1.fR.kept hg ?_ ?_).kept hgA ?_ ?_
  ·cases e:vR.ownBlock with
   | none=>exact .inl rfl
   | some g=>exact .inr (fun e2=>hA2 _ _ (ht.r g e) (by simp) e2)
  ·intro f hf; exact hA2 _ _ (ht.rb f hf) (by simp)
  ·cases e:vR.ownBlock with
   | none=>exact .inl rfl
   | some g=>exact .inr (fun e2=>by injection e2 with e2; exact hA0 _ _ (ht.r g e) (by simp) e2)
  ·intro f hf e2; injection e2 with e2; exact hA0 _ _ (ht.rb f hf) (by simp) e2
 ·refine ⟨?_,?_,?_⟩
  ·have e4:(List.range (m+1)).map (fun f=>Value.slice (some ⟨if f=m then r else bb f,0,none⟩) (p.len f) (p.len f))=((List.range m).map fun f=>.slice (some ⟨bb f,0,none⟩) (p.len f) (p.len f))++[.slice (some ⟨r,0,none⟩) (p.len m) (p.len m)]:=by
    rw [List.range_succ,List.map_append];congr 1
    ·exact List.map_congr_left fun f hf=>by rw [if_neg (by have:=List.mem_range.1 hf; omega)]
    ·simp
   rw [e4];refine ho.kept hgA ?_
   cases e:v'.ownBlock with
   | none=>exact .inl rfl
   | some g=>exact .inr (fun e2=>by injection e2 with e2; exact hvA g e e2)
  ·intro f hf
   by_cases e:f=m
   ·subst e; simp only [if_pos]; exact hrow _ _ _ _ hr1 hrv hrA
   ·have hf':f<m:=by omega
    simp only [if_neg e];exact hrow _ _ _ _ (h1.fB.row f hf') (hA2 _ _ (ht.bb f hf') (by simp)) (hA0 _ _ (ht.bb f hf') (by simp))
  ·intro f hf
   by_cases e:f=m
   ·subst e; simp only [if_pos]; exact hlo
   ·simp only [if_neg e]; exact h1.fB.rng f (by omega)
end
theorem Fam.form {base e te:Nat} {z:Value} {p:Prg} {W:World} {v:Value} {blk:Nat→Nat} {j:Nat} (h:Fam base e te z p W v blk j) (hj:0<j) :
  ∃ g cap,v=.slice (some ⟨g,0,none⟩) j cap∧base≤g∧g<W.heap.size∧∀ f,f<j→W.cell? ⟨g,f,none⟩=some (.slice (some ⟨blk f,0,none⟩) (p.len f) (p.len f)):=by
 have ho:=h.own;rcases ho.2 with ⟨_,h0⟩ | ⟨g,cap,cur,rfl,hb,hg,_⟩
 ·omega
 ·refine ⟨g,cap,rfl,hb,(ho.lt g rfl).2,fun f hf=>?_⟩
  rw [ho.cellAt f (by omega)];simp [hf]
theorem Beg.mem {p:Prg} {lo A E Wn N F:Nat} {rb bb:Nat→Nat} {vR vB:Value} {W:World} (h:Beg p lo A E Wn N F rb bb vR vB p.funs.length p.funs.length (allM p) (cleanM p) W) (hn:0<p.funs.length) (hl:Lies W lo p) :
  ∃ L:Lay,L.A=A∧L.lo=lo∧Mem p L W (startM p):=by
 obtain ⟨gR,cR,eR,hR1,hR2,hR3⟩:=h.fR.form hn;obtain ⟨gB,cB,eB,hB1,hB2,hB3⟩:=h.fB.form hn;obtain ⟨t,ht⟩:=h.tag;obtain ⟨r1,r2,r3,r4,r5⟩:=h.rng;have hA:=h.hlt;refine ⟨⟨lo,W.heap.size,A,E,Wn,N,F,gR,gB,cR,cB,rb,bb⟩,rfl,rfl,⟨⟨⟨t,ht.a,ht.e,ht.w,ht.n,ht.f,ht.r gR (by rw [eR]; rfl),ht.b gB (by rw [eB]; rfl),ht.rb,ht.bb⟩,?_,?_⟩,hl,?_,hR3,hB3,?_,startM_sized p,⟨by show lo≤W.heap.size; omega,Nat.le_refl _⟩⟩⟩
 ·intro b hb
  simp only [List.mem_cons,List.not_mem_nil,or_false] at hb;rcases hb with rfl | rfl | rfl | rfl | rfl | rfl | rfl
  ·exact ⟨r1,hA⟩
  ·exact ⟨r2,h.rE.lt⟩
  ·exact ⟨r3,h.rW.lt⟩
  ·exact ⟨r4,h.rN.lt⟩
  ·exact ⟨r5,h.rF.lt⟩
  ·exact ⟨hR1,hR2⟩
  ·exact ⟨hB1,hB2⟩
 ·exact fun f hf=>⟨⟨h.fR.rng f hf,(h.fR.row f hf).lt⟩,h.fB.rng f hf,(h.fB.row f hf).lt⟩
 ·have:=h.hdr
  rw [eR,eB] at this;exact this
 ·intro x hx
  cases x with
  | ent f=>
   have e:(startM p).get (.ent f)=(false,0):=by simp only [startM,S.get,List.getD_eq_getElem?_getD,List.getElem?_replicate]; split <;> rfl
   rw [e];exact ⟨⟨h.rE.cell hx,h.rE.frozen f⟩,h.rW.cell hx,h.rW.frozen f⟩
  | fin f=>
   have e:(startM p).get (.fin f)=(false,0):=by simp only [startM,S.get,List.getD_eq_getElem?_getD,List.getElem?_replicate]; split <;> rfl
   rw [e];exact ⟨⟨h.rN.cell hx,h.rN.frozen f⟩,h.rF.cell hx,h.rF.frozen f⟩
  | at_ f k=>
   have e:(startM p).get (.at_ f k)=(false,0):=by
    simp only [startM,S.get,List.getD_eq_getElem?_getD,List.getElem?_map]
    cases p.funs[f]? with
    | none=>rfl
    | some x=>simp only [Option.map_some,Option.getD_some,List.getElem?_replicate]; split <;> rfl
   rw [e];exact ⟨⟨(h.fR.row f hx.1).cell hx.2,(h.fR.row f hx.1).frozen k⟩,(h.fB.row f hx.1).cell hx.2,(h.fB.row f hx.1).frozen k⟩
theorem Beg.first {p:Prg} {lo A E Wn N F:Nat} {W:World} (hd:A≠E∧A≠Wn∧A≠N∧A≠F∧E≠Wn∧E≠N∧E≠F∧Wn≠N∧Wn≠F∧N≠F) (hr:lo≤A∧lo≤E∧lo≤Wn∧lo≤N∧lo≤F)
  (hA:W.heap[A]? = some (.cells (bCells p E Wn N F 0 0 (.slice none 0 0) (.slice none 0 0)) 88 (0,0))) (hE:W.rowIs E 4 p.funs.length (fun _=>.bool false)) (hW:W.rowIs Wn 84 p.funs.length (fun _=>sv 0)) (hN:W.rowIs N 4 p.funs.length (fun _=>.bool false)) (hF:W.rowIs F 84 p.funs.length (fun _=>sv 0)) :
  Beg p lo A E Wn N F (fun _=>0) (fun _=>0) (.slice none 0 0) (.slice none 0 0) 0 0 0 0 W:=by
 obtain ⟨d1,d2,d3,d4,d5,d6,d7,d8,d9,d10⟩:=hd;refine ⟨⟨fun b=>if b=A then (0,0) else if b=E then (1,0) else if b=Wn then (2,0) else if b=N then (3,0) else if b=F then (4,0) else (9,0),?_⟩,hA,hE,hW,hN,hF,Fam.nil _ _ _ _ _ _ _,Fam.nil _ _ _ _ _ _ _,hr⟩;constructor
 ·simp
 ·simp [d1.symm]
 ·simp [d2.symm,d5.symm]
 ·simp [d3.symm,d6.symm,d8.symm]
 ·simp [d4.symm,d7.symm,d9.symm,d10.symm]
 ·intro g e; cases e
 ·intro g e; cases e
 ·intro f hf; omega
 ·intro f hf; omega
end
section
open Go.RowKit Go.Shelf
def Begun (p:Prg) (w:World):Ending→World→Prop:=fun e W=>∃ L:Lay,e=.returned (.pointer (some ⟨L.A,0,none⟩))∧Mem p L W (startM p)∧w.heap.size≤L.lo∧Below w.heap.size w W
def Analyzed (p:Prg) (w:World):Ending→World→Prop:=fun e W=>∃ L:Lay,e=.returned (.tuple #[.pointer (some ⟨L.A,0,none⟩),.bool true])∧Mem p L W (analysis p)∧w.heap.size≤L.lo∧Below w.heap.size w W
def S.roundTo (p:Prg) (s:S) (j:Nat):S:=(List.range j).foldl (S.roundF p) s
theorem S.roundTo_succ (p:Prg) (s:S) (j:Nat):s.roundTo p (j+1)=(s.roundTo p j).roundF p j:=by unfold S.roundTo; rw [List.range_succ,List.foldl_append]; rfl
def S.codeTo (p:Prg) (f:Nat) (s:S) (k:Nat):S:=(List.range k).foldl (fun s k=>if (s.get (.at_ f k)).1 then s.instruction p f k else s) s
theorem S.codeTo_succ (p:Prg) (f:Nat) (s:S) (k:Nat):s.codeTo p f (k+1)=if ((s.codeTo p f k).get (.at_ f k)).1 then (s.codeTo p f k).instruction p f k else s.codeTo p f k:=by unfold S.codeTo; rw [List.range_succ,List.foldl_append]; rfl
theorem fn_at {p:Prg} {w:World} {lo hi:Nat} (h:Lies w lo p) {b off f:Nat} (hA:p.funA=some ⟨b,off,none⟩) (hf:f<p.funs.length) {W:World} (ht:Turn lo hi w W) :
  W.cell? ⟨b,off+f * 6,none⟩=some (.string (p.fn f).name)∧W.cell? ⟨b,off+f * 6+1,none⟩=some (.int .i64 (p.fn f).params)∧W.cell? ⟨b,off+f * 6+2,none⟩=some (.int .i64 (p.fn f).regs)∧W.cell? ⟨b,off+f * 6+3,none⟩=some (.int .i64 (p.fn f).prio) ∧
  W.cell? ⟨b,off+f * 6+4,none⟩=some (.bool (p.fn f).clean)∧W.cell? ⟨b,off+f * 6+5,none⟩=some (.slice (p.fn f).codeA (p.len f) (p.fn f).codeC):=by
 obtain ⟨b',off',hA',hb',c0,c1,c2,c3,c4,c5⟩:=h.fn hf;rw [hA] at hA';injection hA' with e;injection e with e1 e2;subst e1; subst e2;have hl:p.funs[f].code.length=p.len f:=by rw [Prg.len,fn_eq hf]
 rw [hl] at c5;rw [← fn_eq hf] at c0 c1 c2 c3 c4 c5;exact ⟨ht.cell c0 (.inl hb'),ht.cell c1 (.inl hb'),ht.cell c2 (.inl hb'),ht.cell c3 (.inl hb'),ht.cell c4 (.inl hb'),ht.cell c5 (.inl hb')⟩
theorem analyze_of (p:Prg) (hfit:Fits p) (hv:prgOk p) (hbeg:∀ W,Lies W W.heap.size p→Calls Tryz.prog 66 #[p.val] W (Begun p W)) (w:World) (h:Lies w w.heap.size p) :
  Calls Tryz.prog 45 #[p.val] w (Analyzed p w):=by
 have hW:=wf_of hv;have hn:=hW.funs;have HCH:=hid (fun (W:World) (hb:Below w.heap.size w W)=>check_ok p hfit hv W (h.next hb));have HBG:=hid (fun (W:World) (hb:Below w.heap.size w W)=>hbeg W (h.next hb));obtain ⟨b,off,hA,hbl,-⟩:=h.fn hn.1;unfold Prg.val at HCH HBG ⊢;rw [hA] at HCH HBG ⊢;have HA:=hid hA;clear hbeg h hA;have hT:=one_new w #[.slice (some ⟨b,off,none⟩) p.funs.length p.funC,.slice p.obA p.obs.length p.obC,.slice p.vrA p.vrs.length p.vrC] 26;go_enter Tryz.func45,Tryz.ntmps45;go_upto_region 1 with fail;generalize w.alloc _=w1 at hT ⊢;obtain ⟨x0,x1,x2⟩:=bx3 hT.fst;go_wp2_with fail;refine (HCH.out _ hT.below).mono ?_;rintro e w2 ⟨rfl,hb2⟩;have hT2:=hT.next hb2;clear x0 x1 x2 hT hb2;obtain ⟨x0,x1,x2⟩:=bx3 hT2.fst;go_wp2_with fail;refine (HBG.out _ hT2.below).mono ?_;rintro e w3 ⟨L,rfl,hm3,hlo,hb3⟩
 have hT3:=hT2.next hb3;have hz2:=hT2.size;have HEN0:Hid (∀ (W:World) (_:Mem p L W (startM p)),Calls Tryz.prog 67 #[.pointer (some ⟨L.A,0,none⟩),.int .i64 0,.int .u32 0] W (Left p L W ((startM p).enter p 0 0) (.tuple #[]))):=hid (fun W hm=>enter_any p L W (startM p) hm 0 hn.1 0);have HINS:=hid (fun (W:World) (s:S) (hm:Mem p L W s) (f k:Nat) (hf:f<p.funs.length) (hk:k<p.len f)=>lois_any p hfit hv L s f k hf hk W hm);have HLV:=hid (fun (W:World) (s:S) (hm:Mem p L W s) (f:Nat) (hf:f<p.funs.length)=>leave_any p hW L W s hm f hf);have HLN:=hid hW.len;have hll:=hm3.hi.1;clear x0 x1 x2 hT2 hb3;go_wp2_with fail;refine (HEN0.out _ hm3).mono ?_;rintro e w4 ⟨rfl,hm4,ht4⟩;have hlo1:w.heap.size+1≤L.lo:=Nat.le_trans hz2 hlo
 have HFN:=hid (fun (W:World) (ht:Turn L.lo L.hi w3 W) (f:Nat) (hf:f<p.funs.length)=>fn_at hm3.prog HA.out hf ht);have HPB:Hid (∀ W,Turn L.lo L.hi w3 W→Bx W w.heap.size [.slice (some ⟨b,off,none⟩) p.funs.length p.funC,.slice p.obA p.obs.length p.obC,.slice p.vrA p.vrs.length p.vrC]):=hid (fun W ht j v hv=>ht.cell (hT3.fst j v hv) (.inl (by show w.heap.size<L.lo; omega)));have HBW:Hid (∀ W,Turn L.lo L.hi w3 W→Below w.heap.size w W):=hid (fun W ht=>hT3.below.trans ((ht.below (Nat.le_trans hm3.hi.1 hm3.hi.2)).mono (by omega)));have HI3:=hid hm3.hi;have HRB:=hid hm3.ok;clear hm3 hT3 hll HEN0 HCH HBG;have c11:=hm4.c11;have hfz:=hm4.hdF 11;go_upto_region 6 with fail;have hm5:=hm4.flag true;have ht5:=ht4.setCell (a:=⟨L.A,11,none⟩) (HRB.out.rng L.A (by simp)) (.bool true);generalize World.setCell w4 _ _=w5 at hm5 ht5 ⊢
 clear c11 hfz hm4 ht4;go_loopg [] p.fuel (fun g wr=>∃ cur:S,Going p g cur∧Mem p L wr cur∧Turn L.lo L.hi w3 wr)
 case atStart=>exact ⟨_,Going.start hW,hm5,ht5⟩
 case round=>
  obtain ⟨cur,hG,hm,ht⟩:=hrel;have c11:=hm.c11
  cases hch:cur.ch with
  | false=>
   rw [hch] at c11;have HD:=hid (hG.done hch);clear hch;go_wp2_with fail;go_ret2;exact ⟨L,rfl,by rw [← HD.out]; exact hm,by omega,HBW.out _ ht⟩
  | true=>
   obtain ⟨g',hg',hGo⟩:=hG.next hW hch;have HGO:=hid hGo;rw [hch] at c11;have hfz:=hm.hdF 11;clear hch hG hGo;go_upto_region 8 with fail;have hm6:=hm.flag false;have ht6:=ht.setCell (a:=⟨L.A,11,none⟩) (HRB.out.rng L.A (by simp)) (.bool false);generalize World.setCell wr _ _=w6 at hm6 ht6 ⊢;clear c11 hfz hm ht;obtain ⟨x0,x1,x2⟩:=bx3 (HPB.out _ ht6);go_upto_region 9 with fail;clear x0 x1 x2;go_loopw [28] (fun i wr=>∃ j:Nat,i=.int .i64 j∧j≤p.funs.length∧Mem p L wr (S.roundTo p { cur with ch:=false } j)∧Turn L.lo L.hi w3 wr) (fun i _=>p.funs.length - (intOf i).toNat)
   case atStart=>exact ⟨0,rfl,by omega,hm6,ht6⟩
   case round=>
    obtain ⟨f,rfl,hf,hm,ht⟩:=hrel;have hf0:=zi f;have hwr1:=Wi f (by omega);by_cases hlt:f<p.funs.length
    ·have hd1:=Dt (show (f:Int)<p.funs.length by omega)
     have hd2:=Dt hlt;have hjl:(f:Int)<(p.funs.length:Int):=by omega
     obtain ⟨q0,q1,q2,q3,q4,q5⟩:=HFN.out wr ht f hlt;go_upto_region 11 with fail;have hF:=bx_new wr #[.string (p.fn f).name,.int .i64 (p.fn f).params,.int .i64 (p.fn f).regs,.int .i64 (p.fn f).prio,.bool (p.fn f).clean,.slice (p.fn f).codeA (p.len f) (p.fn f).codeC] 60;have hba:=below_alloc wr (.cells #[.string (p.fn f).name,.int .i64 (p.fn f).params,.int .i64 (p.fn f).regs,.int .i64 (p.fn f).prio,.bool (p.fn f).clean,.slice (p.fn f).codeA (p.len f) (p.fn f).codeC] 60);have hma:=hm.below hba;have hta:=ht.trans (Turn.of_below hba);have hzG:L.hi≤wr.heap.size:=hm.hi.2;have hZ1:wr.heap.size<(World.alloc wr (.cells #[.string (p.fn f).name,.int .i64 (p.fn f).params,.int .i64 (p.fn f).regs,.int .i64 (p.fn f).prio,.bool (p.fn f).clean,.slice (p.fn f).codeA (p.len f) (p.fn f).codeC] 60)).heap.size:=by simp
     generalize World.alloc wr _=wa at hF hma hta hZ1 ⊢;clear q0 q1 q2 q3 q4 q5 hm ht hba;generalize wr.heap.size=G at hF hzG hZ1 ⊢;obtain ⟨y0,y1,y2,y3,y4,y5⟩:=bx6 hF;go_upto_region 12 with fail;clear y0 y1 y2 y3 y4 y5;have hlen:=HLN.out f hlt;have hl0:=zi (p.len f);have HSU:=hid (S.roundTo_succ p { cur with ch:=false } f);have HC0:Hid (∀ s:S,s.codeTo p f 0=s):=hid (fun _=>rfl);have HCS:Hid (∀ (s:S) k,_):=hid (fun (s:S) k=>s.codeTo_succ p f k);have HRF:Hid (∀ s:S,s.roundF p f=(s.codeTo p f (p.len f)).leave p f):=hid (fun _=>rfl);go_loopw [36] (fun i wr=>∃ k:Nat,i=.int .i64 k∧k≤p.len f∧Mem p L wr ((S.roundTo p { cur with ch:=false } f).codeTo p f k)∧Turn L.lo L.hi w3 wr) (fun i _=>p.len f - (intOf i).toNat)
     case atStart=>exact ⟨0,rfl,by omega,hma,hta⟩
     case round=>
      clear hma hta hF hZ1;obtain ⟨k,rfl,hk,hm,ht⟩:=hrel;have hk0:=zi k;have hwr2:=Wi k (by omega);by_cases hltk:k<p.len f
      ·have hd3:=Dt (show (k:Int)<p.len f by omega)
       have hd4:=Dt hltk;have hkl:(k:Int)<(p.len f:Int):=by omega
       have c9:=hm.c9;have cr:=hm.outR f hlt;have cs:=(hm.slot (.at_ f k) ⟨hlt,hltk⟩).1.1;unfold Lay.kA at cs;dsimp only at cs
       cases hg:(((S.roundTo p { cur with ch:=false } f).codeTo p f k).get (.at_ f k)).1 with
       | false=>
        rw [hg] at cs;have HE:=hid (show (S.roundTo p { cur with ch:=false } f).codeTo p f (k+1)=(S.roundTo p { cur with ch:=false } f).codeTo p f k from by rw [HCS.out,hg]; rfl);clear hg;go_wp2_with fail;go_round
        case rel=>exact ⟨k+1,rfl,by omega,by rw [HE.out]; exact hm,ht⟩
        case measure=>exact ms (by omega)
       | true=>
        rw [hg] at cs;have HE:=hid (show (S.roundTo p { cur with ch:=false } f).codeTo p f (k+1)=((S.roundTo p { cur with ch:=false } f).codeTo p f k).instruction p f k from by rw [HCS.out,hg]; rfl);clear hg;go_wp2_with fail;refine (HINS.out _ _ hm f k hlt hltk).mono ?_;rintro e wi ⟨rfl,hmi,hti⟩;have hti:=ht.trans hti;clear c9 cr cs hm ht;go_wp2_with fail;go_round
        case rel=>exact ⟨k+1,rfl,by omega,by rw [HE.out]; exact hmi,hti⟩
        case measure=>exact ms (by omega)
      ·obtain rfl:k=p.len f:=by omega
       have hd3:=Df (show ¬ ((p.len f:Int)<(p.len f:Int)) by omega);have hd4:=Df (show ¬ (p.len f<p.len f) by omega);go_wp2_with fail;refine (HLV.out _ _ hm f hlt).mono ?_;rintro e wi ⟨rfl,hmi,hti⟩;have hti:=ht.trans hti;clear hm ht;go_wp2_with fail;go_round
       case rel=>exact ⟨f+1,rfl,by omega,by rw [HSU.out,HRF.out]; exact hmi,hti⟩
       case measure=>exact ms (by omega)
    ·obtain rfl:f=p.funs.length:=by omega
     have hd1:=Df (show ¬ (p.funs.length:Int)<p.funs.length by omega);have hd2:=Df (show ¬ (p.funs.length<p.funs.length) by omega);go_wp2_with fail;go_roundg g'
     case measure=>omega
     case rel=>exact ⟨_,HGO.out,hm,ht⟩
end
end Go.Proofs.YtkpjdanfpolimaaGreat
