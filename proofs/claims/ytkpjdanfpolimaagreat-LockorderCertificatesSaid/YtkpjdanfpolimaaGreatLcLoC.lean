/- The lock analysis in plain Lean: it is the least state that its rules allow. Conditions: t · The reference's lock analysis in plain Lean, and that it comes to the same state as lockor · The reference's graph in plain Lean: its 256 Bools as  -/
import Derived.Test.YtkpjdanfpolimaaGreatLcLoF
import Derived.Test.YtkpjdanfpolimaaGreatLcGraph
import Derived.Test.YtkpjdanfpolimaaGreatLcLoW
set_option maxRecDepth 100000
set_option maxHeartbeats 3200000
namespace Go.Proofs.YtkpjdanfpolimaaGreat
section
open Go.RowKit
abbrev Val:=Slot→Bool × BS
def Sub (a b:BS):Prop:=a ||| b=b
theorem sub_iff {a b:BS}:Sub a b↔∀ i,a.getLsbD i=true→b.getLsbD i=true:=by
 unfold Sub;constructor
 ·intro h i hi
  rw [← h,BitVec.getLsbD_or,hi,Bool.true_or]
 ·intro h
  refine BitVec.eq_of_getLsbD_eq fun i _=>?_
  rw [BitVec.getLsbD_or]
  cases e:a.getLsbD i with
  | false=>rw [Bool.false_or]
  | true=>rw [h i e,Bool.true_or]
theorem Sub.refl (a:BS):Sub a a:=sub_iff.2 fun _ h=>h
theorem Sub.trans {a b c:BS} (h:Sub a b) (k:Sub b c):Sub a c:=sub_iff.2 fun i e=>sub_iff.1 k i (sub_iff.1 h i e)
theorem Sub.antisymm {a b:BS} (h:Sub a b) (k:Sub b a):a=b:=by
 have h:a ||| b=b:=h;have k:b ||| a=a:=k;rw [← h,BitVec.or_comm,k]
theorem Sub.zero (a:BS):Sub 0 a:=sub_iff.2 fun i h=>by simp at h
theorem sub_or {a b c:BS}:Sub (a ||| b) c↔Sub a c∧Sub b c:=by
 simp only [sub_iff,BitVec.getLsbD_or,Bool.or_eq_true];exact ⟨fun h=>⟨fun i e=>h i (.inl e),fun i e=>h i (.inr e)⟩,fun h i e=>e.elim (h.1 i) (h.2 i)⟩
theorem Sub.left {a b:BS} (c:BS) (h:Sub a b):Sub a (b ||| c):=sub_iff.2 fun i e=>by rw [BitVec.getLsbD_or,sub_iff.1 h i e,Bool.true_or]
theorem Sub.right {a c:BS} (b:BS) (h:Sub a c):Sub a (b ||| c):=sub_iff.2 fun i e=>by rw [BitVec.getLsbD_or,sub_iff.1 h i e,Bool.or_true]
theorem Sub.orr {a b:BS} (c:BS) (h:Sub a b):Sub (a ||| c) (b ||| c):=sub_or.2 ⟨h.left c,(Sub.refl c).right b⟩
theorem Sub.andr {a b:BS} (c:BS) (h:Sub a b):Sub (a &&& c) (b &&& c):=sub_iff.2 fun i e=>by
 rw [BitVec.getLsbD_and,Bool.and_eq_true] at e ⊢;exact ⟨sub_iff.1 h i e.1,e.2⟩
def Has (V:Val) (x:Slot) (l:BS):Prop:=(V x).1=true∧Sub l (V x).2
def LeV (s V:Val):Prop:=∀ x,((s x).1=true→(V x).1=true)∧Sub (s x).2 (V x).2
theorem LeV.refl (s:Val):LeV s s:=fun _=>⟨id,Sub.refl _⟩
theorem LeV.trans {a b c:Val} (h:LeV a b) (k:LeV b c):LeV a c:=fun x=>⟨fun e=>(k x).1 ((h x).1 e),(h x).2.trans (k x).2⟩
theorem LeV.antisymm {a b:Val} (h:LeV a b) (k:LeV b a):a=b:=funext fun x=>by
 have e2:=(h x).2.antisymm (k x).2
 have e1:(a x).1=(b x).1:=by
  rw [Bool.eq_iff_iff];exact ⟨(h x).1,(k x).1⟩
 exact Prod.ext e1 e2
theorem Has.le {V W:Val} {x:Slot} {l:BS} (h:Has V x l) (k:LeV V W):Has W x l:=⟨(k x).1 h.1,h.2.trans (k x).2⟩
theorem Has.sub {V:Val} {x:Slot} {l m:BS} (h:Has V x l) (k:Sub m l):Has V x m:=⟨h.1,k.trans h.2⟩
def behindV (p:Prg) (V:Val) (f k:Nat):BS × Bool:=
 let i:=p.ins f k
 if i.op=15 then ((V (.fin i.b.toNat)).2,(V (.fin i.b.toNat)).1)
 else if i.op=36 then ((V (.at_ f k)).2 ||| cleanM p,true)
 else if i.op=52∨i.op=54∨i.op=56 then ((V (.at_ f k)).2 &&& ~~~ bit i.a.toNat,true)
 else ((V (.at_ f k)).2 ||| acqBit p i,true)
theorem behindV_le {p:Prg} {V W:Val} (h:LeV V W) (f k:Nat):((behindV p V f k).2=true→(behindV p W f k).2=true)∧Sub (behindV p V f k).1 (behindV p W f k).1:=by
 unfold behindV;dsimp only;split
 ·exact h _
 ·split
  ·exact ⟨fun _=>rfl,(h _).2.orr _⟩
  ·split
   ·exact ⟨fun _=>rfl,(h _).2.andr _⟩
   ·exact ⟨fun _=>rfl,(h _).2.orr _⟩
inductive CallsTo (p:Prg) (V:Val) (f:Nat):Nat→Prop
 | refl:CallsTo p V f f
 | step {g k:Nat}:CallsTo p V f g→k<p.len g→(V (.at_ g k)).1=true→(p.ins g k).op=15→CallsTo p V f (p.ins g k).b.toNat
theorem CallsTo.trans {p:Prg} {V:Val} {f g h:Nat} (a:CallsTo p V f g) (b:CallsTo p V g h):CallsTo p V f h:=by
 induction b with
 | refl=>exact a
 | step _ h1 h2 h3 ih=>exact ih.step h1 h2 h3
theorem CallsTo.le {p:Prg} {V W:Val} (h:LeV V W) {f g:Nat} (a:CallsTo p V f g):CallsTo p W f g:=by
 induction a with
 | refl=>exact .refl
 | step _ h1 h2 h3 ih=>exact ih.step h1 ((h _).1 h2) h3
def WithinC (p:Prg) (V:Val) (f:Nat) (X:BS):Prop:=∀ g k,CallsTo p V f g→k<p.len g→(V (.at_ g k)).1=true→Sub (V (.at_ g k)).2 X
theorem WithinC.le {p:Prg} {V W:Val} (h:LeV V W) {f:Nat} {X:BS} (a:WithinC p W f X):WithinC p V f X:=fun g k h1 h2 h3=>(h _).2.trans (a g k (h1.le h) h2 ((h _).1 h3))
theorem WithinC.mono {p:Prg} {V:Val} {f:Nat} {X Y:BS} (a:WithinC p V f X) (h:Sub X Y):WithinC p V f Y:=fun g k h1 h2 h3=>(a g k h1 h2 h3).trans h
structure FirstC (p:Prg) (V:Val) (f k:Nat):Prop where
 spawn:(p.ins f k).op=34→Has V (.ent (p.ins f k).b.toNat) 0
 call:(p.ins f k).op=15→Has V (.ent (p.ins f k).b.toNat) (V (.at_ f k)).2
 defer:(p.ins f k).op=17→Has V (.ent (p.ins f k).b.toNat) (allM p)
 open_:(p.ins f k).op=35→Has V (.at_ f (p.ins f k).c.toNat) (cleanM p)
 ins:(p.ins f k).op=35→∀ j∈insideM p f k,(V (.at_ f j)).1=true→Has V (.at_ f (p.ins f k).c.toNat) (V (.at_ f j)).2∧((p.ins f j).op=15→WithinC p V (p.ins f j).b.toNat (V (.at_ f (p.ins f k).c.toNat)).2)
def Ends (p:Prg) (f k:Nat):Prop:=k+1=p.len f∧(p.ins f k).op≠13∧(p.ins f k).op≠16∧(p.ins f k).op≠21
structure InsC (p:Prg) (V:Val) (f k:Nat):Prop where
 first:FirstC p V f k
 next:(behindV p V f k).2=true→∀ n∈nextM p f k,Has V (.at_ f n) (behindV p V f k).1
 ret:(p.ins f k).op=16→Has V (.fin f) (V (.at_ f k)).2
 last:Ends p f k→(behindV p V f k).2=true→Has V (.fin f) (behindV p V f k).1
structure Closed (p:Prg) (V:Val):Prop where
 main:Has V (.ent 0) 0
 enter:∀ f,f<p.funs.length→(V (.ent f)).1=true→0<p.len f→Has V (.at_ f 0) (V (.ent f)).2
 none:∀ f,f<p.funs.length→(V (.ent f)).1=true→p.len f=0→Has V (.fin f) (V (.ent f)).2
 ins:∀ f k,f<p.funs.length→k<p.len f→(V (.at_ f k)).1=true→InsC p V f k
/-! within -/
def DoneAt (p:Prg) (s:S) (g j:Nat) (a:List Nat × BS):Prop:=∀ k,k<j→k<p.len g→(s.get (.at_ g k)).1=true→Sub (s.get (.at_ g k)).2 a.2∧((p.ins g k).op=15→(p.ins g k).b.toNat∈a.1)
theorem DoneAt.more {p:Prg} {s:S} {g j:Nat} {a b:List Nat × BS} (h:DoneAt p s g j a) (h1:∀ x∈a.1,x∈b.1) (h2:Sub a.2 b.2):DoneAt p s g j b:=fun k k1 k2 k3=>⟨(h k k1 k2 k3).1.trans h2,fun e=>h1 _ ((h k k1 k2 k3).2 e)⟩
structure VisitOk (p:Prg) (s:S) (f:Nat) (a a':List Nat × BS):Prop where
 sub:∀ x∈a.1,x∈a'.1
 mem:f∈a'.1
 out:Sub a.2 a'.2
 full:∀ g∈a'.1,g∉a.1→DoneAt p s g (p.len g) a'
 snd:∀ X,Sub a.2 X→WithinC p s.get f X→Sub a'.2 X
structure RowOk (p:Prg) (s:S) (f:Nat) (a:List Nat × BS) (j:Nat) (a':List Nat × BS):Prop where
 sub:∀ x∈f::a.1,x∈a'.1
 out:Sub a.2 a'.2
 full:∀ g∈a'.1,g∉f::a.1→DoneAt p s g (p.len g) a'
 row:DoneAt p s f j a'
 snd:∀ X,Sub a.2 X→WithinC p s.get f X→Sub a'.2 X
theorem visit_ok {p:Prg} (hW:Wf p) (s:S):∀ (n:Nat) (a:List Nat × BS) (f:Nat),f<p.funs.length→unseen p.funs.length a.1<n→VisitOk p s f a (s.visit p n a f)
 | 0,_,_,_,h=>by omega
 | n+1,a,f,hf,hn=>by
  rw [S.visit_succ];by_cases hm:f∈a.1
  ·rw [if_pos hm]
   exact ⟨fun _ h=>h,hm,Sub.refl _,fun g h1 h2=>absurd h1 h2,fun _ h _=>h⟩
  ·rw [if_neg hm]
   have hu:=unseen_lt hf hm
   have key:∀ j,j≤p.len f→RowOk p s f a j (s.visitTo p n f (f::a.1,a.2) j):=by
    intro j
    induction j with
    | zero=>exact fun _=>⟨fun _ h=>h,Sub.refl _,fun g h1 h2=>absurd h1 h2,fun k hk=>by omega,fun _ h _=>h⟩
    | succ j ih=>
     intro hj;obtain ⟨i1,i2,i3,i4,i5⟩:=ih (by omega);rw [S.visitTo_succ];generalize s.visitTo p n f (f::a.1,a.2) j=b at i1 i2 i3 i4 i5;unfold S.visitStep;split
     ·rename_i hk
      split
      ·rename_i ho
       have hb:(p.ins f j).b.toNat<p.funs.length:=by
        have:=(hW.ins f j hf (by omega)).call (.inl ho);obtain ⟨h0,h1⟩:=this;omega
       have hun:unseen p.funs.length b.1<n:=by
        have:=unseen_mono p.funs.length i1;omega
       obtain ⟨v1,v2,v3,v4,v5⟩:=visit_ok hW s n (b.1,b.2 ||| (s.get (.at_ f j)).2) (p.ins f j).b.toNat hb hun;generalize s.visit p n (b.1,b.2 ||| (s.get (.at_ f j)).2) (p.ins f j).b.toNat=c at v1 v2 v3 v4 v5;have v3:=sub_or.1 v3;refine ⟨fun x hx=>v1 x (i1 x hx),i2.trans v3.1,fun g h1 h2=>?_,fun k h1 h2 h3=>?_,fun X h1 h2=>?_⟩
       ·by_cases e:g∈b.1
        ·exact (i3 g e h2).more v1 v3.1
        ·exact v4 g h1 e
       ·by_cases e:k=j
        ·subst e; exact ⟨v3.2,fun _=>v2⟩
        ·exact (i4.more v1 v3.1) k (by omega) h2 h3
       ·refine v5 X (sub_or.2 ⟨i5 X h1 h2,h2 f j .refl (by omega) hk⟩) fun g k c1 c2 c3=>h2 g k ((CallsTo.refl.step (by omega) hk ho).trans c1) c2 c3
      ·rename_i ho
       have v3:Sub b.2 (b.2 ||| (s.get (.at_ f j)).2):=(Sub.refl _).left _;refine ⟨i1,i2.trans v3,fun g h1 h2=>(i3 g h1 h2).more (fun _ h=>h) v3,fun k h1 h2 h3=>?_,fun X h1 h2=>sub_or.2 ⟨i5 X h1 h2,h2 f j .refl (by omega) hk⟩⟩;by_cases e:k=j
       ·subst e; exact ⟨(Sub.refl _).right _,fun z=>absurd z ho⟩
       ·exact (i4.more (b:=(b.1,b.2 ||| (s.get (.at_ f j)).2)) (fun _ h=>h) v3) k (by omega) h2 h3
     ·rename_i hk
      refine ⟨i1,i2,i3,fun k h1 h2 h3=>?_,i5⟩;by_cases e:k=j
      ·subst e; exact absurd h3 hk
      ·exact i4 k (by omega) h2 h3
   obtain ⟨i1,i2,i3,i4,i5⟩:=key (p.len f) (Nat.le_refl _);have hv:(List.range (p.len f)).foldl (s.visitStep p n f) (f::a.1,a.2)=s.visitTo p n f (f::a.1,a.2) (p.len f):=rfl;rw [hv];refine ⟨fun x hx=>i1 x (by simp [hx]),i1 f (by simp),i2,fun g h1 h2=>?_,i5⟩;by_cases e:g=f
   ·subst e; exact i4
   ·exact i3 g h1 (by simp [e,h2])
theorem unseen_nil (n:Nat):unseen n []<n+1:=by have:=unseen_le n []; omega
theorem within_ok {p:Prg} (hW:Wf p) (s:S) {f:Nat} (hf:f<p.funs.length) (X:BS):Sub (s.within p f) X↔WithinC p s.get f X:=by
 have h:=visit_ok hW s (p.funs.length+1) ([],0) f hf (unseen_nil _);unfold S.within;generalize s.visit p (p.funs.length+1) ([],0) f=a at h;constructor
 ·intro hX g k hc
  have hg:g∈a.1:=by
   clear k
   induction hc with
   | refl=>exact h.mem
   | step _ h1 h2 h3 ih=>exact (h.full _ ih (by simp) _ h1 h1 h2).2 h3
  exact fun h1 h2=>((h.full g hg (by simp) k h1 h1 h2).1).trans hX
 ·exact fun hc=>h.snd X (Sub.zero _) hc
/-! Steps -/
theorem S.set_self {p:Prg} {s:S} (h:s.Sized p) {x:Slot} (hx:x.In p):s.set x (s.get x)=s:=by
 cases x with
 | ent f=>
  have hf:f<s.ent.length:=by rw [h.ent]; exact hx
  simp only [S.set,S.get,getD_eq _ _ hf,List.set_getElem_self]
 | fin f=>
  have hf:f<s.fin.length:=by rw [h.fin]; exact hx
  simp only [S.set,S.get,getD_eq _ _ hf,List.set_getElem_self]
 | at_ f k=>
  have hf:f<s.cell.length:=by rw [h.cell]; exact hx.1
  have hk:k<(s.cell.getD f []).length:=by rw [h.row f hx.1]; exact hx.2
  simp only [S.set,S.get,getD_eq _ _ hk,List.set_getElem_self];simp only [getD_eq _ _ hf,List.set_getElem_self]
theorem grow_still {p:Prg} {s:S} (h:s.Sized p) {x:Slot} (hx:x.In p) {l:BS} (e:(s.grow x l).ch=false):s.grow x l=s∧Has s.get x l∧s.ch=false:=by
 have e:(s.ch || !(s.get x).1 || (s.get x).2 ||| l != (s.get x).2)=false:=e;simp only [Bool.or_eq_false_iff,Bool.not_eq_false'] at e;obtain ⟨⟨e1,e2⟩,e3⟩:=e;have e3:(s.get x).2 ||| l=(s.get x).2:=by simpa using e3
 have hp:(true,(s.get x).2 ||| l)=s.get x:=by rw [e3,← e2]
 refine ⟨?_,⟨e2,by unfold Sub; rw [BitVec.or_comm]; exact e3⟩,e1⟩;unfold S.grow;rw [hp,S.set_self h hx,e1,e2,e3];simp;rw [← e1]
structure Up (p:Prg) (C:Val→Prop) (I:S→Prop) (s t:S) (R:S→Prop):Prop where
 grows:Grows p s t
 up:LeV s.get t.get
 low:∀ V,C V→LeV s.get V→LeV t.get V
 kept:I s→I t
 still:t.ch=false→t=s∧R s∧s.ch=false
section
variable {p:Prg} {C:Val→Prop} {I:S→Prop}
theorem Up.refl {s:S} (h:s.Sized p):Up p C I s s (fun _=>True):=⟨Grows.refl h,LeV.refl _,fun _ _ h=>h,fun h=>h,fun e=>⟨rfl,trivial,e⟩⟩
theorem Up.seq {s t u:S} {R Q:S→Prop} (h:Up p C I s t R) (k:Up p C I t u Q):Up p C I s u (fun z=>R z∧Q z):=
 ⟨h.grows.trans k.grows,h.up.trans k.up,fun V c l=>k.low V c (h.low V c l),fun i=>k.kept (h.kept i),fun e=>by
  obtain ⟨e1,r1,c1⟩:=k.still e;obtain ⟨e2,r2,c2⟩:=h.still c1;rw [e2] at r1;exact ⟨e1.trans e2,⟨r2,r1⟩,c2⟩⟩
theorem Up.imp {s t:S} {R Q:S→Prop} (h:Up p C I s t R) (k:R s→Q s):Up p C I s t Q:=⟨h.grows,h.up,h.low,h.kept,fun e=>by obtain ⟨e1,r1,c1⟩:=h.still e; exact ⟨e1,k r1,c1⟩⟩
theorem Up.lift {C':Val→Prop} {s t:S} {R:S→Prop} (h:Up p C I s t R) (k:∀ V,C' V→LeV s.get V→C V):Up p C' I s t R:=⟨h.grows,h.up,fun V c l=>h.low V (k V c l) l,h.kept,h.still⟩
theorem get_grow_le {s:S} (h:s.Sized p) {x:Slot} (hx:x.In p) {l:BS} {V:Val} (hl:LeV s.get V) (hv:Has V x l):LeV (s.grow x l).get V:=fun y=>by
 rw [S.get_grow h hx];split
 ·rename_i e; subst e
  exact ⟨fun _=>hv.1,sub_or.2 ⟨(hl _).2,hv.2⟩⟩
 ·exact hl y
theorem le_grow {s:S} (h:s.Sized p) {x:Slot} (hx:x.In p) (l:BS):LeV s.get (s.grow x l).get:=fun y=>by
 rw [S.get_grow h hx];split
 ·rename_i e; subst e
  exact ⟨fun _=>rfl,(Sub.refl _).left _⟩
 ·exact ⟨id,Sub.refl _⟩
theorem Up.grow {s:S} (h:s.Sized p) {x:Slot} (hx:x.In p) {l:BS} (hv:∀ V,C V→LeV s.get V→Has V x l) (hI:I s→I (s.grow x l)):Up p C I s (s.grow x l) (fun z=>Has z.get x l):=
 ⟨Grows.grow h hx l,le_grow h hx l,fun V c k=>get_grow_le h hx k (hv V c k),hI,fun e=>grow_still h hx e⟩
theorem Up.foldl {α:Type} {step:S→α→S} {R:α→S→Prop}:∀ (l:List α) (s:S),s.Sized p→(∀ (s:S) (x:α),x∈l→s.Sized p→Up p C I s (step s x) (R x))→Up p C I s (l.foldl step s) (fun z=>∀ x∈l,R x z)
 | [],s,h,_=>(Up.refl h).imp fun _=>by simp
 | x::r,s,h,hs=>by
  have h1:=hs s x (by simp) h;refine (h1.seq (Up.foldl r (step s x) h1.grows.sized (fun s y hy=>hs s y (by simp [hy])))).imp ?_;rintro ⟨a,b⟩ y hy;rcases List.mem_cons.1 hy with rfl | hy
  ·exact a
  ·exact b y hy
end
def EntI (p:Prg) (s:S):Prop:=∀ f,f<p.funs.length→(s.get (.ent f)).1=true→0<p.len f→Has s.get (.at_ f 0) (s.get (.ent f)).2
theorem EntI.grow {p:Prg} {s:S} (h:s.Sized p) {x:Slot} (hx:x.In p) (hn:∀ f,x≠.ent f) (l:BS) (hI:EntI p s):EntI p (s.grow x l):=by
 intro f hf;unfold Has;rw [S.get_grow h hx,S.get_grow h hx,if_neg (fun e=>hn f e.symm)];intro h1 h2;obtain ⟨a,b⟩:=hI f hf h1 h2;split
 ·rename_i e; subst e
  exact ⟨rfl,b.left _⟩
 ·exact ⟨a,b⟩
section
variable {p:Prg} (hW:Wf p)
theorem up_enter {C:Val→Prop} (hC:∀ V,C V→Closed p V) {s:S} (h:s.Sized p) {f:Nat} (hf:f<p.funs.length) (l:BS) (hv:∀ V,C V→LeV s.get V→Has V (.ent f) l):Up p C (EntI p) s (s.enter p f l) (fun z=>Has z.get (.ent f) l):=by
 unfold S.enter;dsimp only;by_cases h0:p.len f=0
 ·rw [if_pos h0]
  refine Up.grow (x:=.ent f) h hf hv fun hI g hg=>?_
  unfold Has;rw [S.get_grow h (x:=.ent f) hf,S.get_grow h (x:=.ent f) hf];rw [if_neg (show Slot.at_ g 0≠.ent f by simp)];split
  ·rename_i e; injection e with e; subst e; omega
  ·exact hI g hg
 ·rw [if_neg h0]
  have u1:Up p C (fun _=>True) s (s.grow (.ent f) l) (fun z=>Has z.get (.ent f) l):=Up.grow (x:=.ent f) h hf hv fun _=>trivial
  have hs1:=u1.grows.sized;have hat:(Slot.at_ f 0).In p:=⟨hf,by omega⟩
  have u2:Up p C (fun _=>True) (s.grow (.ent f) l) ((s.grow (.ent f) l).grow (.at_ f 0) ((s.grow (.ent f) l).get (.ent f)).2) (fun _=>True):=(Up.grow hs1 hat (fun V c le=>by
   have h1:=(le (.ent f)).1 (by rw [S.get_grow h (x:=.ent f) hf]; simp);exact ((hC V c).enter f hf h1 (by omega)).sub (le (.ent f)).2) (fun _=>trivial)).imp fun _=>trivial
  have u:=(u1.seq u2).imp (Q:=fun z=>Has z.get (.ent f) l) fun h=>h.1
  refine ⟨u.grows,u.up,u.low,fun hI g hg=>?_,u.still⟩;generalize hse:s.grow (.ent f) l=s1 at hs1;have hg1:∀ y,s1.get y=if y=.ent f then (true,(s.get (.ent f)).2 ||| l) else s.get y:=fun y=>by rw [← hse]; exact S.get_grow h (x:=.ent f) hf l y
  unfold Has;rw [S.get_grow hs1 hat,S.get_grow hs1 hat,if_neg (by simp)];intro h1 h2;by_cases e:g=f
  ·subst e
   rw [if_pos rfl];exact ⟨rfl,(Sub.refl _).right _⟩
  ·have hne:Slot.at_ g 0≠.at_ f 0:=fun z=>by injection z with z; exact e z
   rw [if_neg hne];have h3:s1.get (.ent g)=s.get (.ent g):=by rw [hg1,if_neg (fun z=>by injection z with z; exact e z)]
   have h4:s1.get (.at_ g 0)=s.get (.at_ g 0):=by rw [hg1,if_neg (by simp)]
   rw [h3] at h1 ⊢;rw [h4];exact hI g hg h1 h2
include hW
theorem up_openL {C:Val→Prop} {I:S→Prop} {s:S} (h:s.Sized p) {f k:Nat} (hf:f<p.funs.length) (hk:k<p.len f) (ho:(p.ins f k).op=35) (hC:∀ V,C V→FirstC p V f k) (L:List Nat) (hL:∀ j∈L,j∈insideM p f k) (hI:∀ (z:S) (n:Nat) (b:BS),n<p.len f→z.Sized p→I z→I (z.grow (.at_ f n) b)) :
  Up p C I s (L.foldl (S.openStep p f (p.ins f k).c.toNat) (s.grow (.at_ f (p.ins f k).c.toNat) (cleanM p))) (fun z=>Has z.get (.at_ f (p.ins f k).c.toNat) (cleanM p)∧∀ j∈L,(z.get (.at_ f j)).1=true→Has z.get (.at_ f (p.ins f k).c.toNat) (z.get (.at_ f j)).2∧((p.ins f j).op=15→WithinC p z.get (p.ins f j).b.toNat (z.get (.at_ f (p.ins f k).c.toNat)).2)):=by
 obtain ⟨he0,he1⟩:=(hW.ins f k hf hk).open_ ho
 have hel:(p.ins f k).c.toNat<p.len f:=by
  have:(p.fn f).code.length=p.len f:=rfl;omega
 have hin:(Slot.at_ f (p.ins f k).c.toNat).In p:=⟨hf,hel⟩
 have u0:Up p C I s (s.grow (.at_ f (p.ins f k).c.toNat) (cleanM p)) _:=Up.grow h hin (fun V c _=>(hC V c).open_ ho) (hI s _ _ hel h);refine u0.seq (Up.foldl (R:=fun j z=>(z.get (.at_ f j)).1=true→Has z.get (.at_ f (p.ins f k).c.toNat) (z.get (.at_ f j)).2∧((p.ins f j).op=15→WithinC p z.get (p.ins f j).b.toNat (z.get (.at_ f (p.ins f k).c.toNat)).2)) _ _ u0.grows.sized fun s j hj hs=>?_);have hj:=hL j hj;unfold S.openStep;split
 ·rename_i hkn
  dsimp only;have u1:Up p C I s (s.grow (.at_ f (p.ins f k).c.toNat) (s.get (.at_ f j)).2) _:=Up.grow hs hin (fun V c le=>(((hC V c).ins ho j hj ((le _).1 hkn)).1).sub (le _).2) (hI s _ _ hel hs);split
  ·rename_i hoj
   have hjl:j<p.len f:=by rw [insideM_eq] at hj; exact from_mem hj
   have hb:(p.ins f j).b.toNat<p.funs.length:=by
    obtain ⟨h0,h1⟩:=(hW.ins f j hf hjl).call (.inl hoj);omega
   have hs1:=u1.grows.sized
   have hkn1:((s.grow (.at_ f (p.ins f k).c.toNat) (s.get (.at_ f j)).2).get (.at_ f j)).1=true:=by
    rw [S.get_grow hs hin];split
    ·rfl
    ·exact hkn
   have u2:Up p C I (s.grow (.at_ f (p.ins f k).c.toNat) (s.get (.at_ f j)).2) _ _:=Up.grow hs1 hin (fun V c le=>by
    obtain ⟨a,b⟩:=(hC V c).ins ho j hj ((le _).1 hkn1);exact ⟨a.1,(within_ok hW _ hb _).2 ((b hoj).le le)⟩) (hI _ _ ((s.grow (.at_ f (p.ins f k).c.toNat) (s.get (.at_ f j)).2).within p (p.ins f j).b.toNat) hel hs1)
   refine ⟨(u1.seq u2).grows,(u1.seq u2).up,(u1.seq u2).low,(u1.seq u2).kept,fun e=>?_⟩;obtain ⟨e2,q2,c2⟩:=u2.still e;obtain ⟨e1,q1,c1⟩:=u1.still c2;refine ⟨e2.trans e1,fun _=>⟨q1,fun _=>?_⟩,c1⟩;rw [e1] at q2;exact (within_ok hW _ hb _).1 q2.2
  ·rename_i hoj
   exact u1.imp fun q _=>⟨q,fun z=>absurd z hoj⟩
 ·rename_i hkn
  exact (Up.refl hs).imp fun _ z=>absurd z hkn
theorem up_open {C:Val→Prop} {s:S} (h:s.Sized p) {f k:Nat} (hf:f<p.funs.length) (hk:k<p.len f) (ho:(p.ins f k).op=35) (hC:∀ V,C V→FirstC p V f k) :
  Up p C (EntI p) s (s.open_ p f k) (fun z=>Has z.get (.at_ f (p.ins f k).c.toNat) (cleanM p)∧∀ j∈insideM p f k,(z.get (.at_ f j)).1=true→Has z.get (.at_ f (p.ins f k).c.toNat) (z.get (.at_ f j)).2∧((p.ins f j).op=15→WithinC p z.get (p.ins f j).b.toNat (z.get (.at_ f (p.ins f k).c.toNat)).2)):=
 up_openL hW h hf hk ho hC (insideM p f k) (fun _ h=>h) (fun z n b hn hz=>EntI.grow hz (x:=.at_ f n) ⟨hf,hn⟩ (fun _=>by simp) b)
theorem up_first {C:Val→Prop} {s:S} (h:s.Sized p) {f k:Nat} (hf:f<p.funs.length) (hk:k<p.len f) (hC:∀ V,C V→Closed p V∧FirstC p V f k):Up p C (EntI p) s (s.first p f k) (fun z=>FirstC p z.get f k):=by
 have hb:(p.ins f k).op=15∨(p.ins f k).op=34∨(p.ins f k).op=17→(p.ins f k).b.toNat<p.funs.length:=fun e=>by
  obtain ⟨h0,h1⟩:=(hW.ins f k hf hk).call e;omega
 unfold S.first;split
 ·rename_i e
  exact (up_enter (fun V c=>(hC V c).1) h (hb (.inr (.inl e))) 0 (fun V c _=>(hC V c).2.spawn e)).imp fun q=>⟨fun _=>q,fun z=>by omega,fun z=>by omega,fun z=>by omega,fun z=>by omega⟩
 ·split
  ·rename_i e
   exact (up_enter (fun V c=>(hC V c).1) h (hb (.inl e)) _ (fun V c le=>((hC V c).2.call e).sub (le _).2)).imp fun q=>⟨fun z=>by omega,fun _=>q,fun z=>by omega,fun z=>by omega,fun z=>by omega⟩
  ·split
   ·rename_i e
    exact (up_enter (fun V c=>(hC V c).1) h (hb (.inr (.inr e))) _ (fun V c _=>(hC V c).2.defer e)).imp fun q=>⟨fun z=>by omega,fun z=>by omega,fun _=>q,fun z=>by omega,fun z=>by omega⟩
   ·split
    ·rename_i e
     exact (up_open hW h hf hk e (fun V c=>(hC V c).2)).imp fun q=>⟨fun z=>by omega,fun z=>by omega,fun z=>by omega,fun _=>q.1,fun _=>q.2⟩
    ·exact (Up.refl h).imp fun _=>⟨fun z=>by omega,fun z=>by omega,fun z=>by omega,fun z=>by omega,fun z=>by omega⟩
omit hW in
theorem up_next {C:Val→Prop} {I:S→Prop} {s:S} (h:s.Sized p) {f k:Nat} (hf:f<p.funs.length) (b:BS) (hC:∀ V,C V→LeV s.get V→∀ n∈nextM p f k,Has V (.at_ f n) b) (hI:∀ (z:S) n,n<p.len f→z.Sized p→I z→I (z.grow (.at_ f n) b)) :
  Up p C I s ((nextM p f k).foldl (fun z j=>z.grow (.at_ f j) b) s) (fun z=>∀ n∈nextM p f k,Has z.get (.at_ f n) b):=by
 refine (Up.foldl (C:=fun V=>C V∧LeV s.get V) (R:=fun n z=>Has z.get (.at_ f n) b) _ _ h fun z n hn hz=>?_).lift fun V c le=>⟨c,le⟩
 have hnl:=nextM_lt hn;exact Up.grow hz (x:=.at_ f n) ⟨hf,hnl⟩ (fun V c _=>hC V c.1 c.2 n hn) (hI z n hnl hz)
omit hW in
theorem up_goOn {C:Val→Prop} {s:S} (h:s.Sized p) {f k:Nat} (hf:f<p.funs.length) (hC:∀ V,C V→(behindV p V f k).2=true→∀ n∈nextM p f k,Has V (.at_ f n) (behindV p V f k).1) :
  Up p C (EntI p) s (s.goOn p f k) (fun z=>(behindV p z.get f k).2=true→∀ n∈nextM p f k,Has z.get (.at_ f n) (behindV p z.get f k).1):=by
 unfold S.goOn;split
 ·rename_i hb
  refine (up_next h hf _ (fun V c le n hn=>?_) (fun z n hn hz=>EntI.grow hz (x:=.at_ f n) ⟨hf,hn⟩ (fun _=>by simp) _)).imp fun q _=>q
  have hl:=behindV_le (p:=p) le f k;exact (hC V c (hl.1 hb) n hn).sub hl.2
 ·rename_i hb
  exact (Up.refl h).imp fun _ z=>absurd z hb
theorem up_instr {s:S} (h:s.Sized p) {f k:Nat} (hf:f<p.funs.length) (hk:k<p.len f) (hkn:(s.get (.at_ f k)).1=true) :
  Up p (Closed p) (EntI p) s (s.instruction p f k) (fun z=>FirstC p z.get f k∧((behindV p z.get f k).2=true→∀ n∈nextM p f k,Has z.get (.at_ f n) (behindV p z.get f k).1)):=by
 rw [S.instruction_eq];have u1:=up_first (C:=fun V=>Closed p V∧InsC p V f k) hW h hf hk (fun V c=>⟨c.1,c.2.first⟩);have u2:=up_goOn (C:=fun V=>Closed p V∧InsC p V f k) u1.grows.sized (k:=k) hf (fun V c=>c.2.next);exact (u1.seq u2).lift fun V c le=>⟨c,c.ins f k hf hk ((le _).1 hkn)⟩
def LeaveC (p:Prg) (V:Val) (f k:Nat):Prop:=((p.ins f k).op=16→Has V (.fin f) (V (.at_ f k)).2)∧(Ends p f k→(behindV p V f k).2=true→Has V (.fin f) (behindV p V f k).1)
omit hW in
theorem up_leave {s:S} (h:s.Sized p) {f:Nat} (hf:f<p.funs.length) :
  Up p (Closed p) (EntI p) s (s.leave p f) (fun z=>(p.len f=0→(z.get (.ent f)).1=true→Has z.get (.fin f) (z.get (.ent f)).2)∧∀ k∈List.range (p.len f),(z.get (.at_ f k)).1=true→LeaveC p z.get f k):=by
 unfold S.leave;have hin:(Slot.fin f).In p:=hf;have hI:∀ (z:S) (b:BS),z.Sized p→EntI p z→EntI p (z.grow (.fin f) b):=fun z b hz=>EntI.grow hz hin (fun _=>by simp) b
 have u0:Up p (Closed p) (EntI p) s (if p.len f=0∧(s.get (.ent f)).1=true then s.grow (.fin f) (s.get (.ent f)).2 else s) (fun z=>p.len f=0→(z.get (.ent f)).1=true→Has z.get (.fin f) (z.get (.ent f)).2):=by
  split
  ·rename_i e
   exact (Up.grow h hin (fun V c le=>(c.none f hf ((le _).1 e.2) e.1).sub (le _).2) (hI s _ h)).imp fun q _ _=>q
  ·rename_i e
   exact (Up.refl h).imp fun _ a b=>absurd ⟨a,b⟩ e
 refine u0.seq (Up.foldl (R:=fun k z=>(z.get (.at_ f k)).1=true→LeaveC p z.get f k) _ _ u0.grows.sized fun s k hk hs=>?_);have hk:=List.mem_range.1 hk;unfold S.leaveStep;split
 ·rename_i hkn
  dsimp only;have hl:∀ V,Closed p V→LeV s.get V→InsC p V f k:=fun V c le=>c.ins f k hf hk ((le _).1 hkn)
  have u1:Up p (fun V=>Closed p V∧InsC p V f k) (EntI p) s (if (p.ins f k).op=16 then s.grow (.fin f) (s.get (.at_ f k)).2 else s) (fun z=>(p.ins f k).op=16→Has z.get (.fin f) (z.get (.at_ f k)).2):=by
   split
   ·rename_i e
    exact (Up.grow hs hin (fun V c le=>(c.2.ret e).sub (le _).2) (hI s _ hs)).imp fun q _=>q
   ·rename_i e
    exact (Up.refl hs).imp fun _ z=>absurd z e
  generalize (if (p.ins f k).op=16 then s.grow (.fin f) (s.get (.at_ f k)).2 else s)=s1 at u1 ⊢
  have u2:Up p (fun V=>Closed p V∧InsC p V f k) (EntI p) s1 (if k+1=p.len f∧(p.ins f k).op≠13∧(p.ins f k).op≠16∧(p.ins f k).op≠21∧(s1.behind p f k).2=true then s1.grow (.fin f) (s1.behind p f k).1 else s1) (fun z=>Ends p f k→(behindV p z.get f k).2=true→Has z.get (.fin f) (behindV p z.get f k).1):=by
   split
   ·rename_i e
    refine (Up.grow u1.grows.sized hin (fun V c le=>?_) (hI s1 _ u1.grows.sized)).imp fun q _ _=>q
    have hb:=behindV_le (p:=p) le f k;exact (c.2.last ⟨e.1,e.2.1,e.2.2.1,e.2.2.2.1⟩ (hb.1 e.2.2.2.2)).sub hb.2
   ·rename_i e
    exact (Up.refl u1.grows.sized).imp fun _ a b=>absurd ⟨a.1,a.2.1,a.2.2.1,a.2.2.2,b⟩ e
  exact ((u1.seq u2).lift fun V c le=>⟨c,hl V c le⟩).imp fun q _=>q
 ·rename_i hkn
  exact (Up.refl hs).imp fun _ z=>absurd z hkn
def FnC (p:Prg) (V:Val) (f:Nat):Prop:=(p.len f=0→(V (.ent f)).1=true→Has V (.fin f) (V (.ent f)).2)∧∀ k,k<p.len f→(V (.at_ f k)).1=true→InsC p V f k
theorem up_roundF {s:S} (h:s.Sized p) {f:Nat} (hf:f<p.funs.length):Up p (Closed p) (EntI p) s (s.roundF p f) (fun z=>FnC p z.get f):=by
 unfold S.roundF
 have u0:Up p (Closed p) (EntI p) s ((List.range (p.len f)).foldl (fun s k=>if (s.get (.at_ f k)).1 then s.instruction p f k else s) s) (fun z=>∀ k∈List.range (p.len f),(z.get (.at_ f k)).1=true→FirstC p z.get f k∧((behindV p z.get f k).2=true→∀ n∈nextM p f k,Has z.get (.at_ f n) (behindV p z.get f k).1)):=
  Up.foldl (R:=fun k z=>(z.get (.at_ f k)).1=true→FirstC p z.get f k∧((behindV p z.get f k).2=true→∀ n∈nextM p f k,Has z.get (.at_ f n) (behindV p z.get f k).1)) _ _ h (fun s k hk hs=>by
   split
   ·rename_i e
    exact (up_instr hW hs hf (List.mem_range.1 hk) e).imp fun q _=>q
   ·rename_i e
    exact (Up.refl hs).imp fun _ z=>absurd z e)
 refine (u0.seq (up_leave u0.grows.sized hf)).imp ?_;rintro ⟨a,b,c⟩;refine ⟨b,fun k hk hkn=>?_⟩;obtain ⟨a1,a2⟩:=a k (List.mem_range.2 hk) hkn;obtain ⟨c1,c2⟩:=c k (List.mem_range.2 hk) hkn;exact ⟨a1,a2,c1,c2⟩
theorem up_round {s:S} (h:s.Sized p):Up p (Closed p) (EntI p) { s with ch:=false } (s.round p) (fun z=>∀ f∈List.range p.funs.length,FnC p z.get f):=by
 unfold S.round;exact Up.foldl (R:=fun f z=>FnC p z.get f) _ _ ⟨h.ent,h.fin,h.cell,h.row⟩ (fun s f hf hs=>up_roundF hW hs (List.mem_range.1 hf))
end
theorem get_flag (s:S) (c:Bool):({ s with ch:=c }:S).get=s.get:=by funext x; cases x <;> rfl
def iterG (round:S→S):Nat→S→S
 | 0,s=>s
 | n+1,s=>if s.ch then iterG round n (round s) else s
theorem iter_eqG (p:Prg):∀ n s,S.iter p n s=iterG (S.round p) n s
 | 0,_=>rfl
 | n+1,s=>by rw [S.iter,iterG,iter_eqG p n]
structure Ended (p:Prg) (C:Val→Prop) (I R:S→Prop) (s t:S):Prop where
 sized:t.Sized p
 up:LeV s.get t.get
 low:∀ V,C V→LeV s.get V→LeV t.get V
 kept:I t
 all:R t
theorem iterG_end {p:Prg} {C:Val→Prop} {I R:S→Prop} {round:S→S} (hr:∀ s,s.Sized p→Up p C I { s with ch:=false } (round s) R) (hI:∀ s,I s→I { s with ch:=false }) :
  ∀ (g:Nat) (s:S),s.Sized p→I s→s.ch=true→4294967296 * p.slots+1≤g+s.meas→Ended p C I R s (iterG round g s)
 | 0,s,h,_,_,hg=>by have:=S.meas_le h; omega
 | g+1,s,h,hi,hc,hg=>by
  have u:=hr s h;have hs:=u.grows.sized;have hup:=u.up;have hlo:=u.low;rw [get_flag] at hup;simp only [get_flag] at hlo;have hik:=u.kept (hI s hi);rw [iterG,if_pos hc]
  cases hc2:(round s).ch with
  | true=>
   have hm:s.meas<(round s).meas:=by
    rcases u.grows.ch hc2 with e | e
    ·cases e
    ·exact e
   have r:=iterG_end hr hI g (round s) hs hik hc2 (by omega);exact ⟨r.sized,hup.trans r.up,fun V c le=>r.low V c (hlo V c le),r.kept,r.all⟩
  | false=>
   have e:iterG round g (round s)=round s:=by
    cases g with
    | zero=>rfl
    | succ g=>rw [iterG,if_neg (by rw [hc2]; decide)]
   rw [e];obtain ⟨e1,r1,-⟩:=u.still hc2;exact ⟨hs,hup,hlo,hik,by rw [e1]; exact r1⟩
theorem start_get (p:Prg) (x:Slot):(startM p).get x=(false,0):=by
 have hr:∀ (n i:Nat),(List.replicate n ((false,0):Bool × BS)).getD i (false,0)=(false,0):=fun n i=>by
  rw [List.getD_eq_getElem?_getD,List.getElem?_replicate];split <;> rfl
 cases x with
 | ent f=>exact hr _ _
 | fin f=>exact hr _ _
 | at_ f k=>
  simp only [S.get,startM];rw [List.getD_eq_getElem?_getD (l:=p.funs.map _),List.getElem?_map]
  cases p.funs[f]? with
  | none=>rfl
  | some x=>exact hr _ _
theorem start_le (p:Prg) (V:Val):LeV (startM p).get V:=fun x=>by
 rw [start_get];exact ⟨(nomatch ·),Sub.zero _⟩
theorem closed_of {p:Prg} {V:Val} (h0:(V (.ent 0)).1=true) (h1:∀ f,f<p.funs.length→(V (.ent f)).1=true→0<p.len f→Has V (.at_ f 0) (V (.ent f)).2) (h2:∀ f∈List.range p.funs.length,FnC p V f):Closed p V:=
 ⟨⟨h0,Sub.zero _⟩,h1,fun f hf a b=>(h2 f (List.mem_range.2 hf)).1 b a,fun f k hf=>(h2 f (List.mem_range.2 hf)).2 k⟩
theorem analysis_least {p:Prg} (hW:Wf p):Closed p (analysis p).get∧∀ V,Closed p V→LeV (analysis p).get V:=by
 have u:=up_enter (p:=p) (C:=Closed p) (fun V c=>c) (startM_sized p) (f:=0) hW.funs.1 0 (fun V c _=>c.main);have hs:=u.grows.sized;have hi:EntI p ((startM p).enter p 0 0):=u.kept fun f _ e=>by rw [start_get] at e; cases e
 have hm:(((startM p).enter p 0 0).get (.ent 0)).1=true:=by
  unfold S.enter;dsimp only
  have h0:((startM p).grow (.ent 0) 0).get (.ent 0)=(true,0):=by
   rw [S.get_grow (startM_sized p) (x:=.ent 0) hW.funs.1,if_pos rfl,start_get]; rfl
  split
  ·rw [h0]
  ·rename_i hne
   rw [S.get_grow ((startM_sized p).grow _ _) (x:=.at_ 0 0) ⟨hW.funs.1,by omega⟩,if_neg (by simp),h0]
 have r:=iterG_end (fun s hs=>up_round hW hs) (fun s h=>by unfold EntI; rw [get_flag]; exact h) p.fuel { (startM p).enter p 0 0 with ch:=true } ⟨hs.ent,hs.fin,hs.cell,hs.row⟩ (by unfold EntI; rw [get_flag]; exact hi) rfl (by unfold Prg.fuel; omega);rw [← iter_eqG] at r;have r:Ended p (Closed p) (EntI p) (fun z=>∀ f∈List.range p.funs.length,FnC p z.get f) { (startM p).enter p 0 0 with ch:=true } (analysis p):=r;have hup:=r.up;have hlo:=r.low;rw [get_flag] at hup;simp only [get_flag] at hlo;exact ⟨closed_of ((hup _).1 hm) r.kept r.all,fun V c=>hlo V c (u.low V c (start_le p V))⟩
end
section
open Go.RowKit
def insideR (p:Prg) (f k:Nat):List Nat:=(List.range (p.len f)).filter (fun j=>decide (j∈insideM p f k))
theorem mem_insideR {p:Prg} {f k j:Nat}:j∈insideR p f k↔j∈insideM p f k:=by
 unfold insideR;rw [List.mem_filter,List.mem_range];constructor
 ·rintro ⟨-,h⟩; simpa using h
 ·intro h
  refine ⟨?_,by simpa using h⟩;rw [insideM_eq] at h; exact from_mem h
def S.ropen (p:Prg) (s:S) (f k:Nat):S:=(insideR p f k).foldl (S.openStep p f (p.ins f k).c.toNat) (s.grow (.at_ f (p.ins f k).c.toNat) (cleanM p))
def S.rfirst (p:Prg) (s:S) (f k:Nat):S:=
 if (p.ins f k).op=34 then s.grow (.ent (p.ins f k).b.toNat) 0 else if (p.ins f k).op=17 then s.grow (.ent (p.ins f k).b.toNat) (allM p) else if (p.ins f k).op=15 then s.grow (.ent (p.ins f k).b.toNat) (s.get (.at_ f k)).2
 else if (p.ins f k).op=16 then s.grow (.fin f) (s.get (.at_ f k)).2 else if (p.ins f k).op=35 then s.ropen p f k else s
instance (p:Prg) (f k:Nat):Decidable (Ends p f k):=by unfold Ends; exact inferInstance
def S.rlast (p:Prg) (s:S) (f k:Nat) (b:BS):S:=if Ends p f k then s.grow (.fin f) b else s
def S.rgoOn (p:Prg) (s:S) (f k:Nat) (b:BS × Bool):S:=if b.2 then ((nextM p f k).foldl (fun z j=>z.grow (.at_ f j) b.1) s).rlast p f k b.1 else s
def S.rinstr (p:Prg) (s:S) (f k:Nat):S:=(s.rfirst p f k).rgoOn p f k (s.behind p f k)
def S.rhead (p:Prg) (s:S) (f:Nat):S:=if p.len f=0 then s.grow (.fin f) (s.get (.ent f)).2 else s.grow (.at_ f 0) (s.get (.ent f)).2
def S.rroundF (p:Prg) (s:S) (f:Nat):S:=if (s.get (.ent f)).1 then (List.range (p.len f)).foldl (fun s k=>if (s.get (.at_ f k)).1 then s.rinstr p f k else s) (s.rhead p f) else s
def S.rround (p:Prg) (s:S):S:=(List.range p.funs.length).foldl (S.rroundF p) { s with ch:=false }
def analysisR (p:Prg):S:=iterG (S.rround p) p.fuel ((startM p).grow (.ent 0) 0)
def RI (s:S):Prop:=∀ f k,(s.get (.at_ f k)).1=true→(s.get (.ent f)).1=true
def RIf (f:Nat) (s:S):Prop:=RI s∧(s.get (.ent f)).1=true
section
variable {p:Prg}
theorem RI.other {s:S} (h:s.Sized p) {x:Slot} (hx:x.In p) (hn:∀ f k,x≠.at_ f k) (l:BS) (hI:RI s):RI (s.grow x l):=by
 intro f k;rw [S.get_grow h hx,S.get_grow h hx,if_neg (fun e=>hn f k e.symm)];intro e;split
 ·rfl
 ·exact hI f k e
theorem RIf.other {s:S} (h:s.Sized p) {x:Slot} (hx:x.In p) (hn:∀ f k,x≠.at_ f k) (l:BS) {g:Nat} (hI:RIf g s):RIf g (s.grow x l):=
 ⟨hI.1.other h hx hn l,((le_grow h hx l) (.ent g)).1 hI.2⟩
theorem RIf.at_ {s:S} (h:s.Sized p) {g n:Nat} (hx:(Slot.at_ g n).In p) (l:BS) (hI:RIf g s):RIf g (s.grow (.at_ g n) l):=by
 refine ⟨fun f k=>?_,((le_grow h hx l) (.ent g)).1 hI.2⟩;rw [S.get_grow h hx,S.get_grow h hx];rw [if_neg (show Slot.ent f≠.at_ g n by simp)];split
 ·rename_i e; injection e with e1 e2; subst e1
  exact fun _=>hI.2
 ·exact hI.1 f k
theorem Up.conv {C:Val→Prop} {I I':S→Prop} {s t:S} {R:S→Prop} (h:Up p C I s t R) (k:I' s→I s) (m:I t→I' t):Up p C I' s t R:=⟨h.grows,h.up,h.low,fun i=>m (h.kept (k i)),h.still⟩
variable (hW:Wf p)
include hW
theorem up_rfirst {C:Val→Prop} {s:S} (h:s.Sized p) {f k:Nat} (hf:f<p.funs.length) (hk:k<p.len f) (hC:∀ V,C V→InsC p V f k):Up p C (RIf f) s (s.rfirst p f k) (fun z=>FirstC p z.get f k∧((p.ins f k).op=16→Has z.get (.fin f) (z.get (.at_ f k)).2)):=by
 have hb:(p.ins f k).op=15∨(p.ins f k).op=34∨(p.ins f k).op=17→(Slot.ent (p.ins f k).b.toNat).In p:=fun e=>by
  obtain ⟨h0,h1⟩:=(hW.ins f k hf hk).call e;show _<_;omega
 have hfin:(Slot.fin f).In p:=hf;unfold S.rfirst;split
 ·rename_i e
  have hx:=hb (.inr (.inl e));exact (Up.grow h hx (fun V c _=>(hC V c).first.spawn e) (RIf.other h hx (fun _ _=>by simp) _)).imp fun q=>⟨⟨fun _=>q,fun z=>by omega,fun z=>by omega,fun z=>by omega,fun z=>by omega⟩,fun z=>by omega⟩
 ·split
  ·rename_i e
   have hx:=hb (.inr (.inr e));exact (Up.grow h hx (fun V c _=>(hC V c).first.defer e) (RIf.other h hx (fun _ _=>by simp) _)).imp fun q=>⟨⟨fun z=>by omega,fun z=>by omega,fun _=>q,fun z=>by omega,fun z=>by omega⟩,fun z=>by omega⟩
  ·split
   ·rename_i e
    have hx:=hb (.inl e);exact (Up.grow h hx (fun V c le=>((hC V c).first.call e).sub (le _).2) (RIf.other h hx (fun _ _=>by simp) _)).imp fun q=>⟨⟨fun z=>by omega,fun _=>q,fun z=>by omega,fun z=>by omega,fun z=>by omega⟩,fun z=>by omega⟩
   ·split
    ·rename_i e
     exact (Up.grow h hfin (fun V c le=>((hC V c).ret e).sub (le _).2) (RIf.other h hfin (fun _ _=>by simp) _)).imp fun q=>⟨⟨fun z=>by omega,fun z=>by omega,fun z=>by omega,fun z=>by omega,fun z=>by omega⟩,fun _=>q⟩
    ·split
     ·rename_i e
      refine (up_openL hW h hf hk e (fun V c=>(hC V c).first) (insideR p f k) (fun j hj=>mem_insideR.1 hj) (fun z n b hn hz=>RIf.at_ hz ⟨hf,hn⟩ b)).imp fun q=>?_
      exact ⟨⟨fun z=>by omega,fun z=>by omega,fun z=>by omega,fun _=>q.1,fun _ j hj=>q.2 j (mem_insideR.2 hj)⟩,fun z=>by omega⟩
     ·exact (Up.refl h).imp fun _=>⟨⟨fun z=>by omega,fun z=>by omega,fun z=>by omega,fun z=>by omega,fun z=>by omega⟩,fun z=>by omega⟩
theorem up_rinstr {s:S} (h:s.Sized p) {f k:Nat} (hf:f<p.funs.length) (hk:k<p.len f) (hkn:(s.get (.at_ f k)).1=true) :
  Up p (Closed p) (RIf f) s (s.rinstr p f k) (fun z=>InsC p z.get f k):=by
 have hfin:(Slot.fin f).In p:=hf;unfold S.rinstr;have u1:=up_rfirst (C:=fun V=>Closed p V∧InsC p V f k) hW h hf hk (fun V c=>c.2);have hs1:=u1.grows.sized;have hle:=u1.up;generalize s.rfirst p f k=s1 at u1 hs1 hle;unfold S.rgoOn;split
 ·rename_i hb
  have hbl:∀ V,LeV s1.get V→(behindV p V f k).2=true∧Sub (s.behind p f k).1 (behindV p V f k).1:=fun V le=>by
   have hl:=behindV_le (p:=p) (hle.trans le) f k;exact ⟨hl.1 hb,hl.2⟩
  have u2:=up_next (C:=fun V=>Closed p V∧InsC p V f k) (I:=RIf f) (k:=k) hs1 hf (s.behind p f k).1 (fun V c le n hn=>(c.2.next (hbl V le).1 n hn).sub (hbl V le).2) (fun z n hn hz=>RIf.at_ hz ⟨hf,hn⟩ _);have hs2:=u2.grows.sized;have hle2:=u2.up;generalize (nextM p f k).foldl (fun z j=>z.grow (.at_ f j) (s.behind p f k).1) s1=s2 at u2 hs2 hle2
  have u3:Up p (fun V=>Closed p V∧InsC p V f k) (RIf f) s2 (s2.rlast p f k (s.behind p f k).1) (fun z=>Ends p f k→Has z.get (.fin f) (s.behind p f k).1):=by
   unfold S.rlast;split
   ·rename_i e
    exact (Up.grow hs2 hfin (fun V c le=>(c.2.last e (hbl V (hle2.trans le)).1).sub (hbl V (hle2.trans le)).2) (RIf.other hs2 hfin (fun _ _=>by simp) _)).imp fun q _=>q
   ·rename_i e
    exact (Up.refl hs2).imp fun _ z=>absurd z e
  refine (((u1.seq u2).seq u3).lift fun V c le=>⟨c,c.ins f k hf hk ((le _).1 hkn)⟩).imp ?_;rintro ⟨⟨⟨q1,q2⟩,q3⟩,q4⟩;exact ⟨q1,fun _=>q3,q2,fun e _=>q4 e⟩
 ·rename_i hb
  refine (u1.lift fun V c le=>⟨c,c.ins f k hf hk ((le _).1 hkn)⟩).imp ?_;rintro ⟨q1,q2⟩;exact ⟨q1,fun z=>absurd z hb,q2,fun _ z=>absurd z hb⟩
def RFn (p:Prg) (V:Val) (f:Nat):Prop:=(V (.ent f)).1=true→(p.len f=0→Has V (.fin f) (V (.ent f)).2)∧(0<p.len f→Has V (.at_ f 0) (V (.ent f)).2)∧∀ k,k<p.len f→(V (.at_ f k)).1=true→InsC p V f k
theorem up_rroundF {s:S} (h:s.Sized p) {f:Nat} (hf:f<p.funs.length):Up p (Closed p) RI s (s.rroundF p f) (fun z=>RFn p z.get f):=by
 have hfin:(Slot.fin f).In p:=hf;unfold S.rroundF;split
 ·rename_i he
  have u0:Up p (Closed p) (RIf f) s (s.rhead p f) (fun z=>(p.len f=0→Has z.get (.fin f) (z.get (.ent f)).2)∧(0<p.len f→Has z.get (.at_ f 0) (z.get (.ent f)).2)):=by
   unfold S.rhead;split
   ·rename_i e
    exact (Up.grow h hfin (fun V c le=>(c.none f hf ((le _).1 he) e).sub (le _).2) (RIf.other h hfin (fun _ _=>by simp) _)).imp fun q=>⟨fun _=>q,fun z=>by omega⟩
   ·rename_i e
    have hin:(Slot.at_ f 0).In p:=⟨hf,by omega⟩
    exact (Up.grow h hin (fun V c le=>(c.enter f hf ((le _).1 he) (by omega)).sub (le _).2) (RIf.at_ h hin _)).imp fun q=>⟨fun z=>by omega,fun _=>q⟩
  have hs0:=u0.grows.sized;have hle:=u0.up;generalize s.rhead p f=s0 at u0 hs0 hle
  have u1:Up p (Closed p) (RIf f) s0 ((List.range (p.len f)).foldl (fun s k=>if (s.get (.at_ f k)).1 then s.rinstr p f k else s) s0) (fun z=>∀ k∈List.range (p.len f),(z.get (.at_ f k)).1=true→InsC p z.get f k):=
   Up.foldl (R:=fun k z=>(z.get (.at_ f k)).1=true→InsC p z.get f k) _ _ hs0 (fun s k hk hs=>by
    split
    ·rename_i e
     exact (up_rinstr hW hs hf (List.mem_range.1 hk) e).imp fun q _=>q
    ·rename_i e
     exact (Up.refl hs).imp fun _ z=>absurd z e)
  refine ((u0.seq u1).imp ?_).conv (fun i=>⟨i,he⟩) (fun i=>i.1);rintro ⟨⟨a,b⟩,c⟩ -;exact ⟨a,b,fun k hk=>c k (List.mem_range.2 hk)⟩
 ·rename_i he
  exact (Up.refl h).imp fun _ z=>absurd z he
theorem up_rround {s:S} (h:s.Sized p):Up p (Closed p) RI { s with ch:=false } (s.rround p) (fun z=>∀ f∈List.range p.funs.length,RFn p z.get f):=by
 unfold S.rround;exact Up.foldl (R:=fun f z=>RFn p z.get f) _ _ ⟨h.ent,h.fin,h.cell,h.row⟩ (fun s f hf hs=>up_rroundF hW hs (List.mem_range.1 hf))
theorem rstart:((startM p).grow (.ent 0) 0).Sized p∧((startM p).grow (.ent 0) 0).ch=true∧(((startM p).grow (.ent 0) 0).get (.ent 0)).1=true∧RI ((startM p).grow (.ent 0) 0):=by
 have h0:(Slot.ent 0).In p:=hW.funs.1;refine ⟨(startM_sized p).grow _ _,?_,?_,?_⟩
 ·show ((startM p).ch || !((startM p).get (.ent 0)).1 || _)=true
  rw [start_get]; rfl
 ·rw [S.get_grow (startM_sized p) h0,if_pos rfl]
 ·refine RI.other (startM_sized p) h0 (fun _ _=>by simp) _ fun f k e=>?_
  rw [start_get] at e; cases e
theorem analysisR_least:Closed p (analysisR p).get∧∀ V,Closed p V→LeV (analysisR p).get V:=by
 obtain ⟨hs,hc,hm,hi⟩:=rstart hW;have r:=iterG_end (fun s hs=>up_rround hW hs) (fun s h=>by unfold RI; rw [get_flag]; exact h) p.fuel _ hs hi hc (by unfold Prg.fuel; omega);have r:Ended p (Closed p) RI (fun z=>∀ f∈List.range p.funs.length,RFn p z.get f) ((startM p).grow (.ent 0) 0) (analysisR p):=r;have hE:∀ f,f<p.funs.length→((analysisR p).get (.ent f)).1=true→_:=fun f hf e=>r.all f (List.mem_range.2 hf) e
 refine ⟨⟨⟨(r.up _).1 hm,Sub.zero _⟩,fun f hf e=>(hE f hf e).2.1,fun f hf e=>(hE f hf e).1,fun f k hf hk e=>(hE f hf (r.kept f k e)).2.2 k hk e⟩,fun V c=>r.low V c ?_⟩;exact get_grow_le (startM_sized p) (x:=.ent 0) hW.funs.1 (start_le p V) c.main
theorem analysis_same:(analysisR p).get=(analysis p).get:=by
 obtain ⟨a,b⟩:=analysisR_least hW;obtain ⟨c,d⟩:=analysis_least hW;exact (b _ c).antisymm (d _ a)
end
structure GoingR (p:Prg) (g:Nat) (s:S):Prop where
 sized:s.Sized p
 eq:iterG (S.rround p) g s=analysisR p
 fuel:s.ch=true→4294967296 * p.slots+1≤g+s.meas
theorem GoingR.start {p:Prg} (hW:Wf p):GoingR p p.fuel ((startM p).grow (.ent 0) 0):=⟨(rstart hW).1,rfl,fun _=>by unfold Prg.fuel; omega⟩
theorem GoingR.next {p:Prg} (hW:Wf p) {g:Nat} {s:S} (h:GoingR p g s) (hc:s.ch=true):∃ g',g=g'+1∧GoingR p g' (s.rround p):=by
 have h1:=S.meas_le h.sized;have h2:=h.fuel hc;obtain ⟨g',rfl⟩:∃ g',g=g'+1:=⟨g - 1,by omega⟩
 have u:=up_rround hW h.sized;refine ⟨g',rfl,u.grows.sized,?_,fun e=>?_⟩
 ·rw [← h.eq,iterG,if_pos hc]
 ·rcases u.grows.ch e with e | e
  ·cases e
  ·have e:s.meas<(s.rround p).meas:=e
   omega
theorem GoingR.done {p:Prg} {g:Nat} {s:S} (h:GoingR p g s) (hc:s.ch=false):s=analysisR p:=by
 rw [← h.eq]
 cases g with
 | zero=>rfl
 | succ g=>rw [iterG,if_neg (by rw [hc]; decide)]
/-! What from yields. -/
inductive Reach (p:Prg) (f start:Nat) (stop:Int):Nat→Prop
 | start:start<p.len f→(start:Int)≠stop→Reach p f start stop start
 | step {k n:Nat}:Reach p f start stop k→n∈nextM p f k→(n:Int)≠stop→Reach p f start stop n
theorem fromM_sound {p:Prg} {f start:Nat} {stop:Int}:∀ (m:Nat) (seen l:List Nat),(∀ x∈l,x<p.len f→(x:Int)≠stop→Reach p f start stop x)→∀ x∈fromM p f stop m seen l,Reach p f start stop x
 | 0,_,_,_,x,hx=>by simp [fromM] at hx
 | m+1,seen,[],_,x,hx=>by simp [fromM] at hx
 | m+1,seen,k::l,hl,x,hx=>by
  rw [fromM] at hx;split at hx
  ·exact fromM_sound m seen l (fun y hy=>hl y (by simp [hy])) x hx
  ·rename_i hn
   have hk:Reach p f start stop k:=hl k (by simp) (by omega) (fun e=>hn (.inr (.inl e)));rcases List.mem_cons.1 hx with rfl | hx
   ·exact hk
   ·refine fromM_sound m _ _ (fun y hy h1 h2=>?_) x hx
    rcases List.mem_append.1 hy with hy | hy
    ·exact hl y (by simp [hy]) h1 h2
    ·exact hk.step hy h2
theorem fromM_full {p:Prg} {f:Nat} {stop:Int}:∀ (m:Nat) (seen l:List Nat),3 * unseen (p.len f) seen+l.length≤m →
  (∀ x∈l,p.len f≤x∨(x:Int)=stop∨x∈seen∨x∈fromM p f stop m seen l)∧∀ k∈fromM p f stop m seen l,∀ n∈nextM p f k,(n:Int)=stop∨n∈seen∨n∈fromM p f stop m seen l
 | 0,seen,l,h=>by
  have:l=[]:=by cases l with
   | nil=>rfl
   | cons _ _=>simp at h
  subst this;exact ⟨by simp,by simp [fromM]⟩
 | m+1,seen,[],h=>⟨by simp,by simp [fromM]⟩
 | m+1,seen,k::l,h=>by
  rw [fromM];simp only [List.length_cons] at h;split
  ·rename_i hn
   obtain ⟨a,b⟩:=fromM_full (p:=p) (f:=f) (stop:=stop) m seen l (by omega);refine ⟨fun x hx=>?_,b⟩;rcases List.mem_cons.1 hx with rfl | hx
   ·rcases hn with e | e | e
    ·exact .inl e
    ·exact .inr (.inl e)
    ·exact .inr (.inr (.inl e))
   ·exact a x hx
  ·rename_i hn
   have hk:k<p.len f:=by omega
   have hks:k∉seen:=fun e=>hn (.inr (.inr e))
   have hu:=unseen_lt hk hks;have hnl:=next_le p f k;obtain ⟨a,b⟩:=fromM_full (p:=p) (f:=f) (stop:=stop) m (k::seen) (l++nextM p f k) (by rw [List.length_append]; omega);refine ⟨fun x hx=>?_,fun y hy n hn2=>?_⟩
   ·rcases List.mem_cons.1 hx with rfl | hx
    ·exact .inr (.inr (.inr (by simp)))
    ·rcases a x (by simp [hx]) with e | e | e | e
     ·exact .inl e
     ·exact .inr (.inl e)
     ·rcases List.mem_cons.1 e with rfl | e
      ·exact .inr (.inr (.inr (by simp)))
      ·exact .inr (.inr (.inl e))
     ·exact .inr (.inr (.inr (by simp [e])))
   ·have fix:((n:Int)=stop∨n∈k::seen∨n∈fromM p f stop m (k::seen) (l++nextM p f k))→(n:Int)=stop∨n∈seen∨n∈k::fromM p f stop m (k::seen) (l++nextM p f k):=by
     rintro (e | e | e)
     ·exact .inl e
     ·rcases List.mem_cons.1 e with rfl | e
      ·exact .inr (.inr (by simp))
      ·exact .inr (.inl e)
     ·exact .inr (.inr (by simp [e]))
    rcases List.mem_cons.1 hy with rfl | hy
    ·refine fix ?_
     rcases a n (by simp [hn2]) with e | e | e | e
     ·have:=nextM_lt hn2; omega
     ·exact .inl e
     ·exact .inr (.inl e)
     ·exact .inr (.inr e)
    ·exact fix (b y hy n hn2)
theorem from_iff {p:Prg} {f start:Nat} {stop:Int} {x:Nat}:x∈fromL p f start stop↔Reach p f start stop x:=by
 have hf:=fromM_full (p:=p) (f:=f) (stop:=stop) (3 * p.len f+2) [] [start] (by have:=unseen_le (p.len f) []; simp; omega);constructor
 ·exact fun h=>fromM_sound _ _ _ (fun y hy h1 h2=>by
   have:y=start:=by simpa using hy
   subst this; exact .start h1 h2) x h
 ·intro h
  unfold fromL
  induction h with
  | start h1 h2=>
   rcases hf.1 start (by simp) with e | e | e | e
   ·omega
   ·exact absurd e h2
   ·simp at e
   ·exact e
  | step _ h1 h2 ih=>
   rcases hf.2 _ ih _ h1 with e | e | e
   ·exact absurd e h2
   ·simp at e
   ·exact e
end
section
open Go.RowKit Go.Shelf
theorem toStep_get {p:Prg} {s s':S} (h:s.get=s'.get) (f:Nat):toStep p s f=toStep p s' f:=by
 funext t k;unfold toStep;rw [h]
theorem toM_get {p:Prg} {s s':S} (h:s.get=s'.get):toM p s=toM p s':=by
 unfold toM;simp only [toStep_get h]
theorem graph_same {p:Prg} (hW:Wf p):edgesOf (toM p (analysisR p))=graphOf p:=by
 unfold graphOf;rw [toM_get (analysis_same hW)]
def matB (T:List BS) (x:Nat):Bool:=(T.getD (x / 16) 0).getLsbD (x % 16)
def matTo (T:List BS) (n:Nat):List (Nat × Nat):=((List.range n).filter (matB T)).map (fun x=>(x / 16,x % 16))
theorem matTo_succ (T:List BS) (n:Nat):matTo T (n+1)=if matB T n then matTo T n++[(n / 16,n % 16)] else matTo T n:=by
 unfold matTo;rw [List.range_succ,List.filter_append,List.map_append]
 cases h:matB T n with
 | true=>rw [if_pos rfl]; simp [h]
 | false=>simp [h]
theorem matTo_row (T:List BS) (h:Nat):∀ k,k≤16→matTo T (16 * h+k)=matTo T (16 * h)++((List.range k).filter (fun i=>(T.getD h 0).getLsbD i)).map (fun l=>(h,l))
 | 0,_=>by simp
 | k+1,hk=>by
  have e1:(16 * h+k) / 16=h:=by omega
  have e2:(16 * h+k) % 16=k:=by omega
  rw [← Nat.add_assoc,matTo_succ,matTo_row T h k (by omega),List.range_succ,List.filter_append,List.map_append];unfold matB;rw [e1,e2]
  cases hb:(T.getD h 0).getLsbD k with
  | true=>rw [if_pos rfl,List.append_assoc]; simp only [List.filter_cons,hb,if_true,List.filter_nil,List.map_cons,List.map_nil]
  | false=>rw [if_neg (by simp)]; simp only [List.filter_cons,hb,Bool.false_eq_true,if_false,List.filter_nil,List.map_nil,List.append_nil]
theorem matTo_flat (T:List BS):∀ h,matTo T (16 * h)=(List.range h).flatMap (fun h=>(listM (T.getD h 0)).map (fun l=>(h,l)))
 | 0=>rfl
 | h+1=>by
  rw [Nat.mul_add,Nat.mul_one,matTo_row T h 16 (Nat.le_refl _),matTo_flat T h,(List.range_succ:List.range (h+1)=_),List.flatMap_append];simp [listM]
theorem matTo_edges {T:List BS} (hT:T.length≤16):matTo T 256=edgesOf T:=by
 have e:=matTo_flat T 16;unfold edgesOf;rw [show (256:Nat)=16 * 16 from rfl,e];obtain ⟨d,hd⟩:∃ d,16=T.length+d:=⟨16 - T.length,by omega⟩
 rw [hd,List.range_add,List.flatMap_append]
 have:∀ x∈(List.range d).map (T.length + ·),(listM (T.getD x 0)).map (fun l=>(x,l))=[]:=fun x hx=>by
  obtain ⟨y,-,rfl⟩:=List.mem_map.1 hx;rw [List.getD_eq_getElem?_getD,List.getElem?_eq_none (by omega)];rfl
 rw [List.flatMap_eq_nil_iff.2 this,List.append_nil]
theorem matB_set {T:List BS} {h l:Nat} (hh:h<T.length) (hl:l<16) (x:Nat):matB (T.set h (T.getD h 0 ||| bit l)) x=if x=16 * h+l then true else matB T x:=by
 unfold matB;by_cases hx:x / 16=h
 ·rw [hx,List.getD_eq_getElem?_getD,List.getElem?_set_self hh,Option.getD_some,BitVec.getLsbD_or]
  by_cases hm:x % 16=l
  ·rw [if_pos (by omega),hm]
   have:(bit l).getLsbD l=true:=by
    unfold bit;rw [BitVec.getLsbD_shiftLeft];simp; omega
   rw [this,Bool.or_true]
  ·rw [if_neg (by omega)]
   have:(bit l).getLsbD (x % 16)=false:=by
    cases e:(bit l).getLsbD (x % 16) with
    | false=>rfl
    | true=>exact absurd (bit_get l _ e) hm
   rw [this,Bool.or_false]
 ·rw [if_neg (by omega),List.getD_eq_getElem?_getD,List.getElem?_set_ne (fun e=>hx e.symm),← List.getD_eq_getElem?_getD]
end
section
open Go.RowKit Go.Shelf
def racqVal (p:Prg) (i:Ins):Value:=match acq p i with | some l=>.tuple #[.int .i64 l,.bool (decide (i.op≠51))] | none=>.tuple #[.int .i64 (-1),.bool false]
theorem racq_any (p:Prg) (i:Ins) (hw:i.op=57→Idx i.a p.obs.length) (w:World) (h:Lies w w.heap.size p):Calls Tryz.prog 70 #[p.val,i.val] w (Ret (racqVal p i) w):=by
 obtain ⟨op,a,b,c,args,argA,argC⟩:=i;dsimp only at hw;have hT:=two_new w #[.slice p.funA p.funs.length p.funC,.slice p.obA p.obs.length p.obC,.slice p.vrA p.vrs.length p.vrC] #[.int .i64 op,.int .i64 a,.int .i64 b,.int .i64 c,.slice argA args.length argC] 26 63;unfold Prg.val Ins.val Ins.cells;dsimp only;generalize args.length=N at hT ⊢;go_enter Tryz.func70,Tryz.ntmps70;go_upto_region 1 with fail;generalize World.alloc (World.alloc w _) _=W1 at hT ⊢;obtain ⟨x0,x1,x2⟩:=bx3 hT.fst;obtain ⟨z0,z1,z2,z3,z4⟩:=bx5 hT.snd;have HT:=hid hT;clear hT;by_cases h50:op=50
 ·subst h50
  go_wp2_with fail;go_ret2;exact ⟨rfl,HT.out.below⟩
 ·by_cases h53:op=53
  ·subst h53
   go_wp2_with fail;go_ret2;exact ⟨rfl,HT.out.below⟩
  ·by_cases h55:op=55
   ·subst h55
    go_wp2_with fail;go_ret2;exact ⟨rfl,HT.out.below⟩
   ·by_cases h51:op=51
    ·subst h51
     go_wp2_with fail;go_ret2;exact ⟨rfl,HT.out.below⟩
    ·by_cases h57:op=57
     ·subst h57
      obtain ⟨ha0,ha1⟩:=hw rfl;obtain ⟨m,rfl⟩:∃ m:Nat,a=m:=⟨a.toNat,by omega⟩
      have hm:m<p.obs.length:=by omega
      obtain ⟨b9,off9,hA9,hb9,d0,d1,d2,d3⟩:=h.ob hm;have q3:=(HT.out.below.cell (p:=⟨b9,off9+m * 4+3,none⟩) hb9).trans d3;have e3:p.obs.getD m default=p.obs[m]:=by simp [hm]
      have hv:racqVal p ⟨57,m,b,c,args,argA,argC⟩=.tuple #[.int .i64 p.obs[m].other,.bool true]:=by simp only [racqVal,acq]; rw [if_neg (by decide),if_neg (by decide),if_pos (by decide)]; simp only [Int.toNat_natCast,e3]; rfl
      have HV:=hid hv;clear d0 d1 d2 d3 hv e3 h hw;simp only [hA9] at x1 ⊢;clear hA9;go_wp2_with fail;go_ret2;exact ⟨by rw [HV.out]; rfl,HT.out.below⟩
     ·have e1:(op == 50)=false:=by simpa using h50
      have e2:(op == 53)=false:=by simpa using h53
      have e3:(op == 55)=false:=by simpa using h55
      have e4:(op == 51)=false:=by simpa using h51
      have e5:(op == 57)=false:=by simpa using h57
      have hv:racqVal p ⟨op,a,b,c,args,argA,argC⟩=.tuple #[.int .i64 (-1),.bool false]:=by simp only [racqVal,acq]; rw [if_neg (by omega),if_neg (by omega),if_neg (by omega)]
      have HV:=hid hv;clear h50 h53 h55 h51 h57 hv;go_wp2_with fail;go_ret2;exact ⟨by rw [HV.out]; rfl,HT.out.below⟩
def relI (i:Ins):Int:=if i.op=52∨i.op=54∨i.op=56 then i.a else -1
theorem rrel_any (i:Ins) (w:World):Calls Tryz.prog 89 #[i.val] w (Ret (.int .i64 (relI i)) w):=by
 obtain ⟨op,a,b,c,args,argA,argC⟩:=i;have hT:=one_new w #[.int .i64 op,.int .i64 a,.int .i64 b,.int .i64 c,.slice argA args.length argC] 63;unfold Ins.val Ins.cells;dsimp only;generalize args.length=N at hT ⊢;go_enter Tryz.func89,Tryz.ntmps89;go_upto_region 1 with fail;generalize World.alloc w _=W1 at hT ⊢;obtain ⟨z0,z1,z2,z3,z4⟩:=bx5 hT.fst;have HT:=hid hT;clear hT;by_cases h52:op=52
 ·subst h52
  go_wp2_with fail;go_ret;exact ⟨rfl,HT.out.below⟩
 ·by_cases h54:op=54
  ·subst h54
   go_wp2_with fail;go_ret;exact ⟨rfl,HT.out.below⟩
  ·by_cases h56:op=56
   ·subst h56
    go_wp2_with fail;go_ret;exact ⟨rfl,HT.out.below⟩
   ·have e1:(op == 52)=false:=by simpa using h52
    have e2:(op == 54)=false:=by simpa using h54
    have e3:(op == 56)=false:=by simpa using h56
    have hv:relI ⟨op,a,b,c,args,argA,argC⟩ = -1:=by simp only [relI]; rw [if_neg (by omega)]
    have HV:=hid hv;clear h52 h54 h56 hv;go_wp2_with fail;go_ret;exact ⟨by rw [HV.out]; rfl,HT.out.below⟩
end
end Go.Proofs.YtkpjdanfpolimaaGreat
