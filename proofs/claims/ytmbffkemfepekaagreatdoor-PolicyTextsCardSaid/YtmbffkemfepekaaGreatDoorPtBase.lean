/- Words of this seat's own: what a pure call leaves, a stretch of cells that reads as a list of values, and how both outlive later worlds. Conditions: none. -/
import Derived.WalkKit
import Derived.WalkSpells
import Derived.WalkLawsBesides
import Derived.Lib.Hide
import Derived.Maps.AppendAt
import Derived.Deep.AppendLies
import Derived.Deep.Draws
import Derived.Laws.AppendOwnNone
import Derived.Lib.AppendStr
import Derived.OwnWalkIn
import Derived.Test.YtmbffkemfepekaaGreatDoorProg
import Derived.Deep.RegionHeld
import Derived.Deep.QuietTactic
import Derived.BigQuiet
import Derived.Deep.Cut
namespace Go.Proofs.YtmbffkemfepekaaGreatDoor
open Go.RowKit

/-- The call returns v; nothing that lay in memory before has changed. -/
def Ret (v:Value) (w:World):Ending→World→Prop:=fun e w'=>e=.returned v∧Below w.heap.size w w'
theorem Ret.mk {v:Value} {w w':World} (h:Below w.heap.size w w'):Ret v w (.returned v) w':=⟨rfl,h⟩

/-- The slice with address A, n elements of `size` cells each, holds the cells xs, and lies below block B. -/
def Rd (w:World) (B size:Nat) (A:Option Addr) (n:Nat) (xs:List Value):Prop:=
 xs.length=n * size∧(n=0∨∃ b off:Nat,A=some ⟨b,off,none⟩∧b<B∧∀ j u,xs[j]? = some u→w.cell? ⟨b,off+j,none⟩=some u)

section
variable {w w':World} {B B' size n:Nat} {A:Option Addr} {xs:List Value}
theorem Rd.len (h:Rd w B size A n xs):xs.length=n * size:=h.1
theorem Rd.addr (h:Rd w B size A n xs) (hn:0<n):∃ b off:Nat,A=some ⟨b,off,none⟩∧b<B∧∀ j u,xs[j]? = some u→w.cell? ⟨b,off+j,none⟩=some u:=by
 rcases h.2 with h0 | h1
 ·omega
 ·exact h1
theorem Rd.keep (h:Rd w B size A n xs) (hk:∀ p:Addr,p.block<B→w'.cell? p=w.cell? p):Rd w' B size A n xs:=by
 refine ⟨h.1,?_⟩
 rcases h.2 with h0 | ⟨b,o,e,hb,hc⟩
 ·exact .inl h0
 ·exact .inr ⟨b,o,e,hb,fun j u hu=>(hk _ hb).trans (hc j u hu)⟩
theorem Rd.more (h:Rd w B size A n xs) (hB:B≤B'):Rd w B' size A n xs:=by
 refine ⟨h.1,?_⟩
 rcases h.2 with h0 | ⟨b,o,e,hb,hc⟩
 ·exact .inl h0
 ·exact .inr ⟨b,o,e,by omega,hc⟩
theorem Rd.below (h:Rd w B size A n xs) (hb:Below B w w'):Rd w' B size A n xs:=h.keep fun _ hp=>hb.cell hp
theorem Rd.below' {C:Nat} (h:Rd w B size A n xs) (hb:Below C w w') (hC:B≤C):Rd w' B size A n xs:=h.below (hb.mono hC)
theorem Rd.drewN (h:Rd w B size A n xs) (k:Nat):Rd (w.drewN k) B size A n xs:=h
theorem Rd.alloc (h:Rd w B size A n xs) (hB:B≤w.heap.size) (o:Obj):Rd (w.alloc o) B size A n xs:=h.keep fun p hp=>World.cell?_alloc_lt w o p (by omega)
theorem Rd.setCell (h:Rd w B size A n xs) {p:Addr} (hB:B≤p.block) (u:Value):Rd (w.setCell p u) B size A n xs:=
 h.keep fun q hq=>World.cell?_setCell_other w p q u (fun e=>by subst e; omega)
theorem Rd.grown (h:Rd w B size A n xs) {row:Option Nat} (hg:w.grownBy w' row) (hB:B≤w.heap.size) (hr:∀ g,row=some g→B≤g):Rd w' B size A n xs:=
 h.keep fun p hp=>World.cell?_of_block (hg.block p.block (by omega) (fun e=>by have:=hr _ e.symm; omega))
theorem Rd.take (h:Rd w B size A n xs) {k:Nat} (hk:k≤n):Rd w B size A k (xs.take (k * size)):=by
 have hks:k * size≤n * size:=Nat.mul_le_mul_right _ hk
 refine ⟨by rw [List.length_take,h.1]; omega,?_⟩
 rcases h.2 with h0 | ⟨b,o,e,hb,hc⟩
 ·exact .inl (by omega)
 ·refine .inr ⟨b,o,e,hb,fun j u hu=>hc j u ?_⟩
  rw [List.getElem?_take] at hu
  split at hu
  ·exact hu
  ·cases hu
theorem Rd.drop (h:Rd w B size A n xs) {k cap:Nat} (hk:k≤n) (hc:n≤cap) :
  Rd w B size (if cap=k then A else A.map (·.add (k * size))) (n - k) (xs.drop (k * size)):=by
 refine ⟨by rw [List.length_drop,h.1,Nat.sub_mul],?_⟩
 by_cases hn:n - k=0
 ·exact .inl hn
 ·right
  obtain ⟨b,o,rfl,hb,hcell⟩:=h.addr (by omega)
  rw [if_neg (by omega)]
  refine ⟨b,o+k * size,?_,hb,fun j u hu=>?_⟩
  ·by_cases h0:k * size=0
   ·simp [Addr.add,h0]
   ·simp [Addr.add,h0]
  ·rw [Nat.add_assoc]
   exact hcell _ u (by rw [← hu,List.getElem?_drop])
theorem Rd.of_own {base:Nat} {e:TypeId} {c:Nat} (h:w.ownsRow base e size (.slice A n c) n xs):Rd w w.heap.size size A n xs:=by
 refine ⟨h.1,?_⟩
 by_cases hn:n=0
 ·exact .inl hn
 ·obtain ⟨g,cap,hv,_,hlt⟩:=h.form (by omega)
  have hA:A=some ⟨g,0,none⟩:=by injection hv
  subst hA
  refine .inr ⟨_,0,rfl,hlt,fun j u hu=>?_⟩
  have:=h.cells (g:=g) rfl j u hu
  by_cases h0:j=0
  ·subst h0; simpa [Addr.add] using this
  ·simpa [Addr.add,h0] using this
/-- The cells as an append law asks them. -/
theorem Rd.news (h:Rd w B size A n xs) {b off:Nat} (hA:A=some ⟨b,off,none⟩) (hn:0<n):∀ j u,xs[j]? = some u→w.cell? ((⟨b,off,none⟩:Addr).add j)=some u:=by
 obtain ⟨b',off',e,_,hc⟩:=h.addr hn
 rw [hA] at e
 cases e
 intro j u hu
 have:=hc j u hu
 by_cases h0:j=0
 ·subst h0; simpa [Addr.add] using this
 ·simpa [Addr.add,h0] using this
end

theorem below_alloc (w:World) (o:Obj):Below w.heap.size w (w.alloc o):=(Below.refl _ _).alloc (Nat.le_refl _) o

theorem below_alloc2 {B:Nat} {w:World} (h:B≤w.heap.size) (o:Obj):Below B w (w.alloc o):=(Below.refl _ _).alloc h o

#print axioms Rd.drop
end Go.Proofs.YtmbffkemfepekaaGreatDoor

namespace Go.Proofs.YtmbffkemfepekaaGreatDoor
open Go.RowKit

section
variable {P:Program}
theorem run_append_none_ (w:World) (base:Nat) (t ty e:TypeId) (i:TypeInfo) (size:Nat) (ht:P.underlying t=some (.slice e)) (hi:P.info? e=some i)
  (v:Value) (n:Nat) (xs:List Value) (hown:w.ownsRow base e size v n xs) (c:Nat):(Builtin.append_ #[t,t] ty #[v,.slice none 0 c]).run P w=.ok v w:=by
 rcases hown.2 with ⟨rfl,rfl⟩ | ⟨g,cap,cur,rfl,_,_,hnc,_⟩
 ·simp [Builtin.append_,run_underlying ht,sizeOf,typeInfo,hi,Builtin.lenOf,Builtin.firstCells]
 ·simp [Builtin.append_,run_underlying ht,sizeOf,typeInfo,hi,Builtin.lenOf,Builtin.firstCells,hnc,storeCells]

theorem run_append_rd (w:World) (base:Nat) (t ty e:TypeId) (i:TypeInfo) (z:Value) (size bytes:Nat) (ht:P.underlying t=some (.slice e)) (hi:P.info? e=some i) (hz:i.zero=some z)
  (hsize:i.size=size) (hby:i.bytes=bytes) (hzs:z.cells.size=size) (hsz:0<size)
  (v:Value) (n:Nat) (xs:List Value) (hown:w.ownsRow base e size v n xs)
  (B:Nat) (A:Option Addr) (m c:Nat) (news:List Value) (hr:Rd w B size A m news) (h1:∀ u∈news,u.oneCell'=true)
  (h63:n+m≤maxLen) (hbytes:(n+m) * bytes≤140737488355328) (hbase:base≤w.heap.size) :
  ∃ v' w',(Builtin.append_ #[t,t] ty #[v,.slice A m c]).run P w=.ok v' w'∧w'.ownsRow base e size v' (n+m) (xs++news)∧w.grownBy w' v.ownBlock ∧
   (v'.ownBlock=v.ownBlock∨v'.ownBlock=some w.heap.size):=by
 cases A with
 | none=>
  obtain rfl:m=0:=by
   rcases hr.2 with h0 | ⟨b,o,h,_⟩
   ·exact h0
   ·cases h
  obtain rfl:news=[]:=List.eq_nil_of_length_eq_zero (by simpa using hr.1)
  exact ⟨v,w,run_append_none_ w base t ty e i size ht hi v n xs hown c,by simpa using hown,World.grownBy.refl w _,.inl rfl⟩
 | some ad=>
  have hc:∀ j u,news[j]? = some u→w.cell? (ad.add j)=some u:=by
   rcases hr.2 with h0 | ⟨b,o,h,hb⟩
   ·subst h0
    obtain rfl:news=[]:=List.eq_nil_of_length_eq_zero (by simpa using hr.1)
    intro j u hu; simp at hu
   ·cases h
    intro j u hu
    have:=hb.2 j u hu
    by_cases h0:j=0
    ·subst h0; simpa [Addr.add] using this
    ·simpa [Addr.add,h0] using this
  obtain ⟨v',w',h2,h3,h4,_,h5⟩:=run_append_own_at (P:=P) w base t ty e i z size bytes ht hi hz hsize hby hzs hsz v n xs hown ad m c news hr.1 hc h1 h63 hbytes hbase
  exact ⟨v',w',h2,h3,h4,h5⟩

theorem wpList_append_rd {ops:Array Oper} {rest:List Oper} {o:Oper} {a:Act} {w:World} {Q:Exit→Act→World→Prop} (hgd:o.guard=none) (s x:Operand) (t:TypeId)
  (ho:o.op=.call { callee:=.builtin .append,args:=#[s,x],argTypes:=#[t,t] })
  (base:Nat) (e:TypeId) (i:TypeInfo) (z:Value) (size bytes:Nat) (ht:P.underlying t=some (.slice e)) (hi:P.info? e=some i) (hz:i.zero=some z)
  (hsize:i.size=size) (hby:i.bytes=bytes) (hzs:z.cells.size=size) (hsz:0<size)
  (v:Value) (n:Nat) (xs:List Value) (hs:a.eval s=v) (hown:w.ownsRow base e size v n xs)
  (B:Nat) (A:Option Addr) (m c:Nat) (news:List Value) (hx:a.eval x=.slice A m c) (hr:Rd w B size A m news) (h1:∀ u∈news,u.oneCell'=true)
  (h63:n+m≤maxLen) (hbytes:(n+m) * bytes≤140737488355328) (hbase:base≤w.heap.size)
  (h:∀ v' w',w'.ownsRow base e size v' (n+m) (xs++news)→w.grownBy w' v.ownBlock→(v'.ownBlock=v.ownBlock∨v'.ownBlock=some w.heap.size)→wpList P ops Q rest (a.put o.dst v') w'):wpList P ops Q (o::rest) a w:=by
 refine wpList_plain hgd fun K hK=>?_
 obtain ⟨v',w',hrun,h2,h3,h4⟩:=run_append_rd (P:=P) w base t o.type e i z size bytes ht hi hz hsize hby hzs hsz v n xs hown B A m c news hr h1 h63 hbytes hbase
 unfold Oper.wp execOp
 simp only [ho,resolve,invoke,builtin,Sem.run_bind,Sem.run_pure,Result.andThen_ok,List.map_toArray,List.map_cons,List.map_nil,hs,hx,hrun]
 exact hK _ _ (h v' w' h2 h3 h4)
end

/-- An owned row's value, written out. -/
theorem own_form {w:World} {base:Nat} {e:TypeId} {size:Nat} {v:Value} {n:Nat} {xs:List Value} (h:w.ownsRow base e size v n xs):∃ A c,v=.slice A n c:=by
 rcases h.2 with ⟨rfl,rfl⟩ | ⟨g,cap,_,rfl,_⟩
 ·exact ⟨_,_,rfl⟩
 ·exact ⟨_,_,rfl⟩

/-- Integers as cells. -/
def i64s (l:List Int):List Value:=l.map (.int .i64)
theorem i64s_append (l m:List Int):i64s (l++m)=i64s l++i64s m:=by simp [i64s]
theorem i64s_at (l:List Int) (k:Nat) (h:k<l.length):(i64s l)[k]? = some (.int .i64 l[k]):=by simp [i64s,h]

#print axioms wpList_append_rd
end Go.Proofs.YtmbffkemfepekaaGreatDoor

namespace Go.Proofs.YtmbffkemfepekaaGreatDoor

/-- An expression. -/
inductive Ex where
 | mk (kind op:Int) (name:ByteArray) (val:Int) (args:List Ex)

namespace Ex
def kind:Ex→Int | mk k _ _ _ _=>k
def op:Ex→Int | mk _ o _ _ _=>o
def name:Ex→ByteArray | mk _ _ n _ _=>n
def val:Ex→Int | mk _ _ _ v _=>v
def args:Ex→List Ex | mk _ _ _ _ a=>a
end Ex

theorem Ex.ind {P:Ex→Prop} (h:∀ (k o:Int) (n:ByteArray) (v:Int) (aS:List Ex),(∀ a∈aS,P a)→P (Ex.mk k o n v aS)):∀ e:Ex,P e
 | .mk k o n v aS=>h k o n v aS fun a _=>Ex.ind h a
termination_by e=>SizeOf.sizeOf e
decreasing_by have:=List.sizeOf_lt_of_mem ‹a∈aS›; simp; omega

mutual
/-- The number of parts. -/
def nP:Ex→Nat | .mk _ _ _ _ aS=>nPL aS+1
def nPL:List Ex→Nat | []=>0 | a::aS=>nP a+nPL aS
end
mutual
/-- The depth. -/
def dP:Ex→Nat | .mk _ _ _ _ aS=>dPL aS+1
def dPL:List Ex→Nat | []=>0 | a::aS=>max (dP a) (dPL aS)
end
mutual
/-- The parts in preorder. -/
def pre:Ex→List Ex | .mk k o n v aS=>.mk k o n v aS::preL aS
def preL:List Ex→List Ex | []=>[] | a::aS=>pre a++preL aS
end
theorem nP_pos (e:Ex):1≤nP e:=by cases e; simp [nP]
theorem dP_pos (e:Ex):1≤dP e:=by cases e; simp [dP]
theorem nPL_append:∀ l m:List Ex,nPL (l++m)=nPL l+nPL m
 | [],m=>by simp [nPL]
 | a::l,m=>by simp only [List.cons_append,nPL,nPL_append l m]; omega
theorem dPL_append:∀ l m:List Ex,dPL (l++m)=max (dPL l) (dPL m)
 | [],m=>by simp [dPL]
 | a::l,m=>by simp only [List.cons_append,dPL,dPL_append l m]; omega
theorem preL_append:∀ l m:List Ex,preL (l++m)=preL l++preL m
 | [],m=>by simp [preL]
 | a::l,m=>by simp [preL,preL_append l m]
theorem nP_take (l:List Ex) (k:Nat) (h:k<l.length):nPL (l.take (k+1))=nPL (l.take k)+nP l[k]:=by
 rw [List.take_add_one,List.getElem?_eq_getElem h,nPL_append]; simp [nPL]
theorem dP_take (l:List Ex) (k:Nat) (h:k<l.length):dPL (l.take (k+1))=max (dPL (l.take k)) (dP l[k]):=by
 rw [List.take_add_one,List.getElem?_eq_getElem h,dPL_append]; simp [dPL]
theorem pre_take (l:List Ex) (k:Nat) (h:k<l.length):preL (l.take (k+1))=preL (l.take k)++pre l[k]:=by
 rw [List.take_add_one,List.getElem?_eq_getElem h,preL_append]; simp [preL]
theorem nPL_take_le (l:List Ex) (k:Nat):nPL (l.take k)≤nPL l:=by
 have:=nPL_append (l.take k) (l.drop k)
 rw [List.take_append_drop] at this; omega
theorem dP_le_mem {l:List Ex} {a:Ex} (h:a∈l):dP a≤dPL l:=by
 induction l with
 | nil=>cases h
 | cons b l ih=>
  simp only [dPL]
  rcases List.mem_cons.1 h with rfl | h
  ·omega
  ·have:=ih h; omega
theorem dP_le_nP:∀ e:Ex,dP e≤nP e:=by
 intro e
 induction e using Ex.ind with
 | h k o n v aS ih=>
  simp only [dP,nP]
  have:dPL aS≤nPL aS:=by
   clear k o n v
   induction aS with
   | nil=>simp [dPL]
   | cons a aS ih2=>
    simp only [dPL,nPL]
    have h1:=ih a (by simp)
    have h2:=ih2 (fun b hb=>ih b (by simp [hb]))
    omega
  omega
theorem mem_pre_self (e:Ex):e∈pre e:=by cases e; simp [pre]
theorem mem_preL {l:List Ex} {a x:Ex} (ha:a∈l) (hx:x∈pre a):x∈preL l:=by
 induction l with
 | nil=>cases ha
 | cons b l ih=>
  simp only [preL,List.mem_append]
  rcases List.mem_cons.1 ha with rfl | h
  ·exact .inl hx
  ·exact .inr (ih h)
theorem mem_pre_arg {k o:Int} {n:ByteArray} {v:Int} {aS:List Ex} {a x:Ex} (ha:a∈aS) (hx:x∈pre a):x∈pre (.mk k o n v aS):=by
 simp only [pre,List.mem_cons]; exact .inr (mem_preL ha hx)

/-- A small letter; a byte of a name. -/
def letB (c:UInt8):Bool:=97≤c.toNat && c.toNat≤122
def digB (c:UInt8):Bool:=48≤c.toNat && c.toNat≤57
def inB (c:UInt8):Bool:=letB c || digB c || c.toNat == 95
/-- Whether a text is a name. -/
def nmL (s:List UInt8):Bool:=1≤s.length && s.length≤30 && (match s with | []=>false | c::_=>letB c) && s.all inB
def nmB (s:ByteArray):Bool:=nmL s.data.toList

/-- How many arguments a kind has. -/
def argsN (k:Int):Nat:=if k=3 then 1 else if k=4 then 2 else 0
/-- Why a part is not valid, apart from its arguments. -/
def chk1 (e:Ex):Nat:=
 if e.kind<1∨4<e.kind then 8
 else if (e.kind≠1∧e.val≠0)∨(e.kind≠2∧e.name.size≠0)∨((e.kind=1∨e.kind=2)∧e.op≠0)∨e.args.length≠argsN e.kind then 1
 else if e.kind=1∧(e.val<0∨1099511627776<e.val) then 2
 else if e.kind=2∧nmB e.name=false then 5
 else if (e.kind=3∧e.op≠1∧e.op≠2)∨(e.kind=4∧(e.op<3∨15<e.op)) then 8
 else 0
/-- The first error of a list of parts. -/
def chkL:List Ex→Nat
 | []=>0
 | a::l=>if chk1 a=0 then chkL l else chk1 a
theorem chkL_append (l m:List Ex):chkL (l++m)=if chkL l=0 then chkL m else chkL l:=by
 induction l with
 | nil=>simp [chkL]
 | cons a l ih=>
  simp only [List.cons_append,chkL]
  by_cases h:chk1 a=0
  ·simp only [h,if_true]; exact ih
  ·simp only [h,if_false]
theorem chkL_zero {l:List Ex} (h:chkL l=0):∀ a∈l,chk1 a=0:=by
 induction l with
 | nil=>intro a ha; cases ha
 | cons b l ih=>
  simp only [chkL] at h
  by_cases hb:chk1 b=0
  ·rw [if_pos hb] at h
   intro a ha
   rcases List.mem_cons.1 ha with rfl | ha
   ·exact hb
   ·exact ih h a ha
  ·rw [if_neg hb] at h; exact absurd h hb
/-- Why an expression is not valid. -/
def chkE (e:Ex):Nat:=if 100<nP e then 4 else if 12<dP e then 22 else chkL (pre e)
/-- All parts are valid. -/
def Good (e:Ex):Prop:=∀ x∈pre e,chk1 x=0
theorem good_of (e:Ex) (h:chkE e=0):Good e∧nP e≤100∧dP e≤12:=by
 unfold chkE at h
 by_cases h1:100<nP e
 ·rw [if_pos h1] at h; cases h
 ·rw [if_neg h1] at h
  by_cases h2:12<dP e
  ·rw [if_pos h2] at h; cases h
  ·rw [if_neg h2] at h
   exact ⟨chkL_zero h,by omega,by omega⟩
theorem Good.arg {k o:Int} {n:ByteArray} {v:Int} {aS:List Ex} (h:Good (.mk k o n v aS)) {a:Ex} (ha:a∈aS):Good a:=
 fun x hx=>h x (mem_pre_arg ha hx)
theorem Good.self {e:Ex} (h:Good e):chk1 e=0:=h e (mem_pre_self e)

/-- What chk1 says of a valid part. -/
structure Part (e:Ex):Prop where
 lo:1≤e.kind
 hi:e.kind≤4
 val:e.kind≠1→e.val=0
 name:e.kind≠2→e.name.size=0
 op:e.kind=1∨e.kind=2→e.op=0
 len:e.args.length=argsN e.kind
 range:e.kind=1→0≤e.val∧e.val≤1099511627776
 nm:e.kind=2→nmB e.name=true
 un:e.kind=3→e.op=1∨e.op=2
 bin:e.kind=4→3≤e.op∧e.op≤15
theorem part_of {e:Ex} (h:chk1 e=0):Part e:=by
 unfold chk1 at h
 by_cases h1:e.kind<1∨4<e.kind
 ·rw [if_pos h1] at h; cases h
 rw [if_neg h1] at h
 by_cases h2:(e.kind≠1∧e.val≠0)∨(e.kind≠2∧e.name.size≠0)∨((e.kind=1∨e.kind=2)∧e.op≠0)∨e.args.length≠argsN e.kind
 ·rw [if_pos h2] at h; cases h
 rw [if_neg h2] at h
 by_cases h3:e.kind=1∧(e.val<0∨1099511627776<e.val)
 ·rw [if_pos h3] at h; cases h
 rw [if_neg h3] at h
 by_cases h4:e.kind=2∧nmB e.name=false
 ·rw [if_pos h4] at h; cases h
 rw [if_neg h4] at h
 by_cases h5:(e.kind=3∧e.op≠1∧e.op≠2)∨(e.kind=4∧(e.op<3∨15<e.op))
 ·rw [if_pos h5] at h; cases h
 have h2':=not_or.1 h2
 have h2'':=not_or.1 h2'.2
 have h2''':=not_or.1 h2''.2
 refine ⟨by omega,by omega,fun hk=>Decidable.byContradiction fun hv=>h2'.1 ⟨hk,hv⟩,fun hk=>Decidable.byContradiction fun hv=>h2''.1 ⟨hk,hv⟩,fun hk=>Decidable.byContradiction fun hv=>h2'''.1 ⟨hk,hv⟩,Decidable.byContradiction h2'''.2,fun hk=>by omega,fun hk=>?_,fun hk=>by omega,fun hk=>by omega⟩
 cases hn:nmB e.name
 ·exact absurd ⟨hk,hn⟩ h4
 ·rfl

/-- A binding. -/
structure Bd where
 name:ByteArray
 ty:Int
 val:Int
def findB (l:List Bd) (n:ByteArray):Option Bd:=l.find? fun b=>b.name == n

/-- Argument type and result type of an operator with two arguments. -/
def opArg (o:Int):Int:=if o=8∨o=9 then 0 else if o=14∨o=15 then 2 else 1
def opRes (o:Int):Int:=if o≤7 then 1 else 2
/-- An answer: a number, or an error. -/
inductive Ans where
 | ok (n:Int)
 | er (f:Nat)
def Ans.n:Ans→Int | .ok n=>n | .er _=>0
def Ans.f:Ans→Nat | .ok _=>0 | .er f=>f
/-- The type of a part, from those of its arguments. -/
def typ1 (l:List Bd) (k o:Int) (n:ByteArray) (ts:List Int):Ans:=
 if k=1 then .ok 1
 else if k=2 then (match findB l n with | none=>.er 7 | some b=>.ok b.ty)
 else if k=3 then (if ts.getD 0 0=(if o=2 then 2 else 1) then .ok (if o=2 then 2 else 1) else .er 15)
 else if ts.getD 0 0≠ts.getD 1 0∨(opArg o≠0∧ts.getD 0 0≠opArg o) then .er 15 else .ok (opRes o)
/-- Answers of a list, or the first error. -/
inductive AnsL where
 | ok (l:List Int)
 | er (f:Nat)
def AnsL.push:AnsL→Ans→AnsL
 | .er f,_=>.er f
 | .ok _,.er f=>.er f
 | .ok l,.ok n=>.ok (l++[n])
mutual
def typE (l:List Bd):Ex→Ans
 | .mk k o n _ aS=>match typL l (.ok []) aS with
  | .er f=>.er f
  | .ok ts=>typ1 l k o n ts
def typL (l:List Bd) (acc:AnsL):List Ex→AnsL
 | []=>acc
 | a::aS=>typL l (acc.push (typE l a)) aS
end
def oneI (b:Bool):Int:=if b then 1 else 0
/-- The value of an operator. -/
def opV (o a b:Int):Ans:=
 if o=3 then .ok (a+b) else if o=4 then .ok (a - b)
 else if o=5 then (if b≠0∧1099511627776 / b.natAbs<(a.natAbs:Int) then .er 14 else .ok (a * b))
 else if o=6 then (if b=0 then .er 24 else .ok (a.tdiv b))
 else if o=7 then (if b=0 then .er 24 else .ok (a.tmod b))
 else if o=8 then .ok (oneI (decide (a=b))) else if o=9 then .ok (oneI (decide (a≠b)))
 else if o=10 then .ok (oneI (decide (a<b))) else if o=11 then .ok (oneI (decide (a≤b)))
 else if o=12 then .ok (oneI (decide (b<a))) else if o=13 then .ok (oneI (decide (b≤a)))
 else if o=14 then .ok (oneI (decide (a≠0∧b≠0))) else .ok (oneI (decide (a≠0∨b≠0)))
def capA:Ans→Ans
 | .er f=>.er f
 | .ok n=>if 1099511627776<n.natAbs then .er 14 else .ok n
def val1 (l:List Bd) (k o:Int) (n:ByteArray) (v:Int) (vs:List Int):Ans:=
 capA (if k=1 then .ok v
  else if k=2 then .ok (match findB l n with | none=>0 | some b=>b.val)
  else if k=3 then (if o=2 then .ok (1 - vs.getD 0 0) else .ok (- vs.getD 0 0))
  else opV o (vs.getD 0 0) (vs.getD 1 0))
mutual
def valE (l:List Bd):Ex→Ans
 | .mk k o n v aS=>match valL l (.ok []) aS with
  | .er f=>.er f
  | .ok vs=>val1 l k o n v vs
def valL (l:List Bd) (acc:AnsL):List Ex→AnsL
 | []=>acc
 | a::aS=>valL l (acc.push (valE l a)) aS
end
/-- Type, over bindings that are valid. -/
def typeE (l:List Bd) (e:Ex):Ans:=if chkE e=0 then typE l e else .er (chkE e)
/-- Eval, over bindings that are valid. -/
def evalE (l:List Bd) (e:Ex):Ans:=match typeE l e with | .er f=>.er f | .ok _=>valE l e
section
variable (l:List Bd)
theorem typL_append:∀ (aS bs:List Ex) (acc:AnsL),typL l acc (aS++bs)=typL l (typL l acc aS) bs
 | [],_,_=>by simp [typL]
 | a::aS,bs,acc=>by simp only [List.cons_append,typL]; exact typL_append aS bs _
theorem typL_er (f:Nat):∀ aS:List Ex,typL l (.er f) aS=.er f
 | []=>by simp [typL]
 | a::aS=>by simp only [typL,AnsL.push]; exact typL_er f aS
theorem typL_take (aS:List Ex) (k:Nat) (h:k<aS.length):typL l (.ok []) (aS.take (k+1))=(typL l (.ok []) (aS.take k)).push (typE l aS[k]):=by
 rw [List.take_add_one,List.getElem?_eq_getElem h,typL_append]; simp [typL]
theorem typL_len:∀ (aS:List Ex) (acc ts:List Int),typL l (.ok acc) aS=.ok ts→ts.length=acc.length+aS.length
 | [],acc,ts,h=>by simp only [typL,AnsL.ok.injEq] at h; subst h; simp
 | a::aS,acc,ts,h=>by
  simp only [typL] at h
  cases e:typE l a with
  | er f=>rw [e] at h; simp only [AnsL.push] at h; rw [typL_er] at h; cases h
  | ok n=>rw [e] at h; simp only [AnsL.push] at h; have:=typL_len aS _ _ h; simp at this ⊢; omega
theorem typL_split (aS:List Ex) (k f:Nat) (h:k<aS.length) (ts:List Int) (h1:typL l (.ok []) (aS.take k)=.ok ts) (h2:typE l aS[k]=.er f):typL l (.ok []) aS=.er f:=by
 have e:aS=aS.take (k+1)++aS.drop (k+1):=(List.take_append_drop _ _).symm
 rw [e,typL_append,typL_take l aS k h,h1,h2]
 simp only [AnsL.push]
 exact typL_er l f _
theorem typE_mk (k o:Int) (n:ByteArray) (v:Int) (aS:List Ex):typE l (.mk k o n v aS)=match typL l (.ok []) aS with | .er f=>.er f | .ok ts=>typ1 l k o n ts:=by simp only [typE]
theorem valL_append:∀ (aS bs:List Ex) (acc:AnsL),valL l acc (aS++bs)=valL l (valL l acc aS) bs
 | [],_,_=>by simp [valL]
 | a::aS,bs,acc=>by simp only [List.cons_append,valL]; exact valL_append aS bs _
theorem valL_er (f:Nat):∀ aS:List Ex,valL l (.er f) aS=.er f
 | []=>by simp [valL]
 | a::aS=>by simp only [valL,AnsL.push]; exact valL_er f aS
theorem valL_take (aS:List Ex) (k:Nat) (h:k<aS.length):valL l (.ok []) (aS.take (k+1))=(valL l (.ok []) (aS.take k)).push (valE l aS[k]):=by
 rw [List.take_add_one,List.getElem?_eq_getElem h,valL_append]; simp [valL]
theorem valL_len:∀ (aS:List Ex) (acc ts:List Int),valL l (.ok acc) aS=.ok ts→ts.length=acc.length+aS.length
 | [],acc,ts,h=>by simp only [valL,AnsL.ok.injEq] at h; subst h; simp
 | a::aS,acc,ts,h=>by
  simp only [valL] at h
  cases e:valE l a with
  | er f=>rw [e] at h; simp only [AnsL.push] at h; rw [valL_er] at h; cases h
  | ok n=>rw [e] at h; simp only [AnsL.push] at h; have:=valL_len aS _ _ h; simp at this ⊢; omega
theorem valL_split (aS:List Ex) (k f:Nat) (h:k<aS.length) (ts:List Int) (h1:valL l (.ok []) (aS.take k)=.ok ts) (h2:valE l aS[k]=.er f):valL l (.ok []) aS=.er f:=by
 have e:aS=aS.take (k+1)++aS.drop (k+1):=(List.take_append_drop _ _).symm
 rw [e,valL_append,valL_take l aS k h,h1,h2]
 simp only [AnsL.push]
 exact valL_er l f _
theorem valE_mk (k o:Int) (n:ByteArray) (v:Int) (aS:List Ex):valE l (.mk k o n v aS)=match valL l (.ok []) aS with | .er f=>.er f | .ok ts=>val1 l k o n v ts:=by simp only [valE]
theorem capA_bd {x:Ans} {n:Int} (h:capA x=.ok n):x=.ok n∧n.natAbs≤1099511627776:=by
 cases x with
 | er f=>cases h
 | ok m=>
  simp only [capA] at h
  split at h
  ·cases h
  ·cases h; exact ⟨rfl,by omega⟩
theorem valE_bd (e:Ex) (n:Int) (h:valE l e=.ok n):n.natAbs≤1099511627776:=by
 obtain ⟨k,o,nm,v,aS⟩:=e
 rw [valE_mk] at h
 cases e:valL l (.ok []) aS with
 | er f=>rw [e] at h; cases h
 | ok ts=>rw [e] at h; exact (capA_bd h).2
theorem valL_bd:∀ (aS:List Ex) (acc ts:List Int),(∀ x∈acc,x.natAbs≤1099511627776)→valL l (.ok acc) aS=.ok ts→∀ x∈ts,x.natAbs≤1099511627776
 | [],acc,ts,h0,h=>by simp only [valL,AnsL.ok.injEq] at h; subst h; exact h0
 | a::aS,acc,ts,h0,h=>by
  simp only [valL] at h
  cases e:valE l a with
  | er f=>rw [e] at h; simp only [AnsL.push] at h; rw [valL_er] at h; cases h
  | ok n=>
   rw [e] at h; simp only [AnsL.push] at h
   refine valL_bd aS _ _ (fun x hx=>?_) h
   rcases List.mem_append.1 hx with hx | hx
   ·exact h0 x hx
   ·rw [List.mem_singleton.1 hx]; exact valE_bd l a n e
end
end Go.Proofs.YtmbffkemfepekaaGreatDoor

namespace Go.Proofs.YtmbffkemfepekaaGreatDoor
open Go.RowKit

def I64 (x:Int):Prop:=-9223372036854775808≤x∧x≤9223372036854775807
/-- The five cells of an expression. -/
def exC (k o:Int) (n:ByteArray) (v:Int) (A:Option Addr) (m c:Nat):List Value:=[.int .i64 k,.int .i64 o,.string n,.int .i64 v,.slice A m c]
/-- Five cells that read as the expression; all that they lead to lies below block B. -/
inductive LiesE (w:World) (B:Nat):List Value→Ex→Prop where
 | mk (k o:Int) (n:ByteArray) (v:Int) (A:Option Addr) (c:Nat) (xs:List Ex) (row:Nat→List Value)
   (bd:I64 k∧I64 o∧I64 v∧n.size≤9223372036854775807∧xs.length≤9223372036854775807∧xs.length≤c)
   (hA:xs.length=0∨∃ b off:Nat,A=some ⟨b,off,none⟩∧b<B∧∀ i,i<xs.length→∀ j u,(row i)[j]? = some u→w.cell? ⟨b,off+i * 5+j,none⟩=some u)
   (hr:∀ (i:Nat) (h:i<xs.length),LiesE w B (row i) xs[i]):LiesE w B (exC k o n v A xs.length c) (.mk k o n v xs)
theorem LiesE.keep {w w':World} {B B':Nat} {vs:List Value} {e:Ex} (h:LiesE w B vs e) (hB:B≤B') (hk:∀ p:Addr,p.block<B→w'.cell? p=w.cell? p):LiesE w' B' vs e:=by
 induction h with
 | mk k o n v A c xs row bd hA hr ih=>
  refine .mk k o n v A c xs row bd ?_ ih
  rcases hA with h0 | ⟨b,off,e,hb,hc⟩
  ·exact .inl h0
  ·exact .inr ⟨b,off,e,by omega,fun i hi j u hu=>(hk _ hb).trans (hc i hi j u hu)⟩
theorem LiesE.blw {w w':World} {B:Nat} {vs:List Value} {e:Ex} (h:LiesE w B vs e) (hb:Below B w w'):LiesE w' B vs e:=h.keep (Nat.le_refl _) fun _ hp=>hb.cell hp
theorem LiesE.below' {w w':World} {B C:Nat} {vs:List Value} {e:Ex} (h:LiesE w B vs e) (hb:Below C w w') (hC:B≤C):LiesE w' B vs e:=h.blw (hb.mono hC)
theorem LiesE.more {w:World} {B B':Nat} {vs:List Value} {e:Ex} (h:LiesE w B vs e) (hB:B≤B'):LiesE w B' vs e:=h.keep hB fun _ _=>rfl
theorem LiesE.next {w w':World} {vs:List Value} {e:Ex} (h:LiesE w w.heap.size vs e) (hb:Below w.heap.size w w'):LiesE w' w'.heap.size vs e:=(h.blw hb).more hb.size
/-- An expression's value, opened. -/
theorem LiesE.form {w:World} {B:Nat} {vs:List Value} {e:Ex} (h:LiesE w B vs e):∃ (A:Option Addr) (c:Nat) (row:Nat→List Value),vs=exC e.kind e.op e.name e.val A e.args.length c ∧
  (I64 e.kind∧I64 e.op∧I64 e.val∧e.name.size≤9223372036854775807∧e.args.length≤9223372036854775807∧e.args.length≤c) ∧
  (∀ (i:Nat) (h:i<e.args.length),∃ b off:Nat,A=some ⟨b,off,none⟩∧b<B∧(∀ j u,(row i)[j]? = some u→w.cell? ⟨b,off+i * 5+j,none⟩=some u)) ∧
  ∀ (i:Nat) (h:i<e.args.length),LiesE w B (row i) e.args[i]:=by
 cases h with
 | mk k o n v A c xs row bd hA hr=>
  refine ⟨A,c,row,rfl,bd,fun i hi=>?_,hr⟩
  rcases hA with h0 | ⟨b,off,e,hb,hc⟩
  ·have:i<xs.length:=hi
   omega
  ·exact ⟨b,off,e,hb,hc i hi⟩
/-- The i-th argument: its address and its five cells. -/
theorem LiesE.arg {w:World} {B:Nat} {vs:List Value} {e:Ex} (h:LiesE w B vs e):∃ (A:Option Addr) (c:Nat),vs=exC e.kind e.op e.name e.val A e.args.length c ∧
  (I64 e.kind∧I64 e.op∧I64 e.val∧e.name.size≤9223372036854775807∧e.args.length≤9223372036854775807∧e.args.length≤c) ∧
  (∀ (i:Nat) (h:i<e.args.length),∃ (b off:Nat) (k o:Int) (n:ByteArray) (v:Int) (A':Option Addr) (m c':Nat),A=some ⟨b,off,none⟩∧b<B∧LiesE w B (exC k o n v A' m c') e.args[i] ∧
   w.cell? ⟨b,off+i * 5,none⟩=some (.int .i64 k)∧w.cell? ⟨b,off+i * 5+1,none⟩=some (.int .i64 o)∧w.cell? ⟨b,off+i * 5+2,none⟩=some (.string n)∧w.cell? ⟨b,off+i * 5+3,none⟩=some (.int .i64 v)∧w.cell? ⟨b,off+i * 5+4,none⟩=some (.slice A' m c')):=by
 obtain ⟨A,c,row,rfl,bd,hc,hr⟩:=h.form
 refine ⟨A,c,rfl,bd,fun i hi=>?_⟩
 obtain ⟨b,off,e1,hb,hcell⟩:=hc i hi
 obtain ⟨A',c',row',e2,-⟩:=(hr i hi).form
 have hri:=hr i hi
 rw [e2] at hcell hri
 exact ⟨b,off,_,_,_,_,_,_,_,e1,hb,hri,hcell 0 _ rfl,hcell 1 _ rfl,hcell 2 _ rfl,hcell 3 _ rfl,hcell 4 _ rfl⟩
/-- The same for an expression written out. -/
theorem LiesE.inv {w:World} {B:Nat} {k o:Int} {n:ByteArray} {v:Int} {A:Option Addr} {m c:Nat} {e:Ex} (h:LiesE w B (exC k o n v A m c) e):∃ xs,e=.mk k o n v xs∧m=xs.length ∧
  (I64 k∧I64 o∧I64 v∧n.size≤9223372036854775807∧xs.length≤9223372036854775807∧xs.length≤c) ∧
  (∀ (i:Nat) (h:i<xs.length),∃ (b off:Nat) (k o:Int) (n:ByteArray) (v:Int) (A':Option Addr) (m c':Nat),A=some ⟨b,off,none⟩∧b<B∧LiesE w B (exC k o n v A' m c') xs[i] ∧
   w.cell? ⟨b,off+i * 5,none⟩=some (.int .i64 k)∧w.cell? ⟨b,off+i * 5+1,none⟩=some (.int .i64 o)∧w.cell? ⟨b,off+i * 5+2,none⟩=some (.string n)∧w.cell? ⟨b,off+i * 5+3,none⟩=some (.int .i64 v)∧w.cell? ⟨b,off+i * 5+4,none⟩=some (.slice A' m c')):=by
 obtain ⟨A',c',e1,bd,ha⟩:=h.arg
 obtain ⟨k',o',n',v',xs⟩:=e
 unfold exC at e1
 simp only [List.cons.injEq,Value.int.injEq,Value.string.injEq,Value.slice.injEq,true_and,and_true,Ex.kind,Ex.op,Ex.name,Ex.val,Ex.args] at e1
 obtain ⟨rfl,rfl,rfl,rfl,rfl,rfl,rfl⟩:=e1
 exact ⟨xs,rfl,rfl,bd,ha⟩
end Go.Proofs.YtmbffkemfepekaaGreatDoor

namespace Go.Proofs.YtmbffkemfepekaaGreatDoor
open Go.RowKit
def Bx (W:World) (g:Nat) (cs:List Value):Prop:=∀ j v,cs[j]? = some v→W.cell? ⟨g,j,none⟩=some v
theorem Bx.below {W W':World} {g B:Nat} {cs:List Value} (h:Bx W g cs) (hb:Below B W W') (hg:g<B):Bx W' g cs:=fun j v hv=>(hb.cell (p:=⟨g,j,none⟩) hg).trans (h j v hv)
theorem bx_new (W:World) (cs:Array Value) (t:Nat):Bx (W.alloc (.cells cs t)) W.heap.size cs.toList:=fun j v hv=>by
 rw [cell_of_row _ W.heap.size j cs t (0,0) (heap_alloc_new W _)]; simpa using hv
theorem Bx.alloc {W:World} {g:Nat} {cs:List Value} (h:Bx W g cs) (hg:g<W.heap.size) (o:Obj):Bx (W.alloc o) g cs:=fun j v hv=>(World.cell?_alloc_lt W o ⟨g,j,none⟩ hg).trans (h j v hv)
structure Two (w W:World) (a b:List Value):Prop where
 fst:Bx W w.heap.size a
 snd:Bx W (w.heap.size+1) b
 below:Below w.heap.size w W
 size:w.heap.size+2≤W.heap.size
theorem Two.next {w W W':World} {a b:List Value} (h:Two w W a b) (hb:Below W.heap.size W W'):Two w W' a b:=
 ⟨h.fst.below hb (by have:=h.size; omega),h.snd.below hb (by have:=h.size; omega),h.below.trans (hb.mono h.below.size),by have:=h.size; have:=hb.size; omega⟩
theorem two_new (w:World) (a b:Array Value) (s t:Nat):Two w ((w.alloc (.cells a s)).alloc (.cells b t)) a.toList b.toList:=by
 refine ⟨(bx_new w a s).alloc (by simp) _,?_,(below_alloc _ _).trans (below_alloc2 (by simp) _),by simp⟩
 have:=bx_new (w.alloc (.cells a s)) b t
 rwa [show (w.alloc (.cells a s)).heap.size=w.heap.size+1 from by simp] at this
theorem bx3 {W:World} {g:Nat} {a b c:Value} (h:Bx W g [a,b,c]):W.cell? ⟨g,0,none⟩=some a∧W.cell? ⟨g,1,none⟩=some b∧W.cell? ⟨g,2,none⟩=some c:=⟨h 0 _ rfl,h 1 _ rfl,h 2 _ rfl⟩
theorem bx4 {W:World} {g:Nat} {a b c d:Value} (h:Bx W g [a,b,c,d]):W.cell? ⟨g,0,none⟩=some a∧W.cell? ⟨g,1,none⟩=some b∧W.cell? ⟨g,2,none⟩=some c∧W.cell? ⟨g,3,none⟩=some d:=⟨h 0 _ rfl,h 1 _ rfl,h 2 _ rfl,h 3 _ rfl⟩
theorem below_drews (B:Nat) (w:World) (n:Nat):Below B w (w.drewN n):=⟨rfl,rfl,rfl,Nat.le_refl _,fun _ _=>rfl⟩
structure One (w W:World) (a:List Value):Prop where
 fst:Bx W w.heap.size a
 below:Below w.heap.size w W
 size:w.heap.size+1≤W.heap.size
theorem One.next {w W W':World} {a:List Value} (h:One w W a) (hb:Below W.heap.size W W'):One w W' a:=
 ⟨h.fst.below hb (by have:=h.size; omega),h.below.trans (hb.mono h.below.size),by have:=h.size; have:=hb.size; omega⟩
theorem one_new (w:World) (a:Array Value) (s:Nat):One w (w.alloc (.cells a s)) a.toList:=⟨bx_new w a s,below_alloc _ _,by simp⟩
structure Three (w W:World) (a b c:List Value):Prop where
 two:Two w W a b
 thd:Bx W (w.heap.size+2) c
 size:w.heap.size+3≤W.heap.size
theorem Three.next {w W W':World} {a b c:List Value} (h:Three w W a b c) (hb:Below W.heap.size W W'):Three w W' a b c:=
 ⟨h.two.next hb,h.thd.below hb (by have:=h.size; omega),by have:=h.size; have:=hb.size; omega⟩
theorem three_new (w:World) (a b c:Array Value) (s t u:Nat):Three w (((w.alloc (.cells a s)).alloc (.cells b t)).alloc (.cells c u)) a.toList b.toList c.toList:=by
 have hT:=two_new w a b s t
 refine ⟨hT.next (below_alloc _ _),?_,by simp⟩
 have:=bx_new ((w.alloc (.cells a s)).alloc (.cells b t)) c u
 rwa [show ((w.alloc (.cells a s)).alloc (.cells b t)).heap.size=w.heap.size+2 from by simp] at this
theorem bx5 {W:World} {g:Nat} {a b c d e:Value} (hb:Bx W g [a,b,c,d,e]):W.cell? ⟨g,0,none⟩=some a∧W.cell? ⟨g,1,none⟩=some b∧W.cell? ⟨g,2,none⟩=some c∧W.cell? ⟨g,3,none⟩=some d∧W.cell? ⟨g,4,none⟩=some e:=⟨hb 0 _ rfl,hb 1 _ rfl,hb 2 _ rfl,hb 3 _ rfl,hb 4 _ rfl⟩
theorem bx2 {W:World} {g:Nat} {a b:Value} (h:Bx W g [a,b]):W.cell? ⟨g,0,none⟩=some a∧W.cell? ⟨g,1,none⟩=some b:=⟨h 0 _ rfl,h 1 _ rfl⟩
structure Turn (lo hi:Nat) (w W:World):Prop where
 os:W.os=w.os
 tape:W.tape=w.tape
 output:W.output=w.output
 size:w.heap.size≤W.heap.size
 block:∀ k,k<w.heap.size→(k<lo∨hi≤k)→W.heap[k]? = w.heap[k]?
theorem Turn.refl (lo hi:Nat) (w:World):Turn lo hi w w:=⟨rfl,rfl,rfl,Nat.le_refl _,fun _ _ _=>rfl⟩
theorem Turn.trans {lo hi:Nat} {a b c:World} (h1:Turn lo hi a b) (h2:Turn lo hi b c):Turn lo hi a c:=
 ⟨h2.os.trans h1.os,h2.tape.trans h1.tape,h2.output.trans h1.output,Nat.le_trans h1.size h2.size,fun k hk hr=>(h2.block k (Nat.lt_of_lt_of_le hk h1.size) hr).trans (h1.block k hk hr)⟩
theorem Turn.of_below {lo hi:Nat} {w W:World} (h:Below w.heap.size w W):Turn lo hi w W:=
 ⟨h.os,h.tape,h.output,h.size,fun k hk _=>h.block k hk⟩
theorem Turn.setCell {lo hi:Nat} {w W:World} (h:Turn lo hi w W) {a:Addr} (ha:lo≤a.block∧a.block<hi) (v:Value):Turn lo hi w (W.setCell a v):=
 ⟨h.os,h.tape,h.output,by simpa using h.size,fun k hk hr=>(heap_setCell_other _ _ _ _ (by omega)).trans (h.block k hk hr)⟩
theorem Turn.drewN {lo hi:Nat} {w W:World} (h:Turn lo hi w W) (n:Nat):Turn lo hi w (W.drewN n):=⟨h.os,h.tape,h.output,h.size,h.block⟩
theorem Turn.below {lo hi:Nat} {w W:World} (h:Turn lo hi w W) (hl:lo≤w.heap.size):Below lo w W:=
 ⟨h.os,h.tape,h.output,h.size,fun k hk=>h.block k (by omega) (.inl hk)⟩
theorem Turn.cell {lo hi:Nat} {w W:World} (h:Turn lo hi w W) {a:Addr} {v:Value} (hc:w.cell? a=some v) (ha:a.block<lo∨hi≤a.block):W.cell? a=some v:=by
 have:=h.block a.block (block_lt_of_cell hc) ha
 simp only [World.cell?,this]
 exact hc
theorem frozen_block {w W:World} {a:Addr} (h:W.heap[a.block]? = w.heap[a.block]?):W.frozen? a=w.frozen? a:=by simp only [World.frozen?,h]
theorem Bx.turn {lo hi g:Nat} {cs:List Value} {W W':World} (h:Bx W g cs) (ht:Turn lo hi W W') (_:g<W.heap.size) (hg:hi≤g):Bx W' g cs:=fun j v hv=>ht.cell (h j v hv) (.inr hg)
theorem Turn.below2 {lo hi B:Nat} {w W W':World} (h:Turn lo hi w W) (hb:Below B W W') (hB:w.heap.size≤B):Turn lo hi w W':=
 ⟨hb.os.trans h.os,hb.tape.trans h.tape,hb.output.trans h.output,Nat.le_trans h.size hb.size,fun k hk hr=>(hb.block k (by omega)).trans (h.block k hk hr)⟩
end Go.Proofs.YtmbffkemfepekaaGreatDoor

namespace Go.Proofs.YtmbffkemfepekaaGreatDoor
open Go.RowKit
/-- The counter's cell. -/
def Cnt (W:World) (pb c:Nat):Prop:=W.cell? ⟨pb,0,none⟩=some (.int .i64 (c:Nat))∧W.frozen? ⟨pb,0,none⟩=false∧pb<W.heap.size
/-- What measure leaves. -/
def MsR (w:World) (pb c d:Nat) (e:Ex):Ending→World→Prop:=fun x W=>∃ r:Nat,x=.returned (.int .i64 (r:Nat))∧r≤101∧(c+nP e≤100→r+1=d+dP e)∧Cnt W pb (min 101 (c+nP e))∧Turn pb (pb+1) w W
set_option maxRecDepth 100000 in
set_option maxHeartbeats 3200000 in
theorem measure_any:∀ (e:Ex) (lo pb c d:Nat) (vs:List Value) (w:World),LiesE w lo vs e→lo≤pb→Cnt w pb c→c≤100→d≤c+1 →
  Calls Tryz.prog 66 #[.agg vs.toArray,.int .i64 (d:Nat),.pointer (some ⟨pb,0,none⟩)] w (MsR w pb c d e):=by
 intro e
 induction e using Ex.ind with
 | h k o n v xs ih=>
  intro lo pb c d vs w hL hlo hC hc hd
  obtain ⟨A,cap,rfl,bd,harg⟩:=hL.arg
  obtain ⟨c0,f0,hpb⟩:=hC
  have hll:xs.length≤9223372036854775807:=bd.2.2.2.2.1
  have hnP:nP (Ex.mk k o n v xs)=nPL xs+1:=by simp [nP]
  have hdP:dP (Ex.mk k o n v xs)=dPL xs+1:=by simp [dP]
  have hT0:=(Turn.of_below (lo:=pb) (hi:=pb+1) (below_alloc w (.cells #[.int .i64 k,.int .i64 o,.string n,.int .i64 v,.slice A xs.length cap] 38)))
  have hB0:=bx_new w #[.int .i64 k,.int .i64 o,.string n,.int .i64 v,.slice A xs.length cap] 38
  have hz0:(w.alloc (.cells #[.int .i64 k,.int .i64 o,.string n,.int .i64 v,.slice A xs.length cap] 38)).heap.size=w.heap.size+1:=by simp
  have c1:=(World.cell?_alloc_lt w (.cells #[.int .i64 k,.int .i64 o,.string n,.int .i64 v,.slice A xs.length cap] 38) ⟨pb,0,none⟩ hpb).trans c0
  have f1:=((below_alloc w (.cells #[.int .i64 k,.int .i64 o,.string n,.int .i64 v,.slice A xs.length cap] 38)).frozen (p:=⟨pb,0,none⟩) hpb).trans f0
  have hwr:IntKind.i64.wrap ((c:Int)+1)=(c:Int)+1:=by rw [IntKind.wrap_i64]; omega
  have HARG:=Lib.hid harg
  have HIH:=Lib.hid ih
  simp only [Ex.kind,Ex.op,Ex.name,Ex.val,Ex.args] at HARG ⊢
  clear harg ih hL bd
  unfold exC MsR
  rw [hnP,hdP]
  clear hnP hdP c0 f0
  go_enter Tryz.func66,Tryz.ntmps66
  go_upto_region 1 with fail
  generalize w.alloc _=w1 at hT0 hB0 hz0 c1 f1 ⊢
  go_upto_region 2 with fail
  have c2:(w1.setCell ⟨pb,0,none⟩ (.int .i64 ((c:Int)+1))).cell? ⟨pb,0,none⟩=some (.int .i64 ((c:Int)+1)):=World.cell?_setCell_same _ _ _ c1
  have f2:(w1.setCell ⟨pb,0,none⟩ (.int .i64 ((c:Int)+1))).frozen? ⟨pb,0,none⟩=false:=by rw [World.frozen?_setCell]; exact f1
  have hT2:=hT0.setCell (a:=⟨pb,0,none⟩) ⟨Nat.le_refl _,by show pb<pb+1; omega⟩ (.int .i64 ((c:Int)+1))
  have hB2:Bx (w1.setCell ⟨pb,0,none⟩ (.int .i64 ((c:Int)+1))) w.heap.size [.int .i64 k,.int .i64 o,.string n,.int .i64 v,.slice A xs.length cap]:=fun j u hu=>(World.cell?_setCell_far _ _ _ _ (by show pb≠w.heap.size; omega)).trans (hB0 j u hu)
  have hz2:(w1.setCell ⟨pb,0,none⟩ (.int .i64 ((c:Int)+1))).heap.size=w.heap.size+1:=by simpa using hz0
  clear c1 f1 hT0 hB0 hz0 hwr
  generalize w1.setCell _ _=w2 at c2 f2 hT2 hB2 hz2 ⊢
  obtain ⟨x0,x1,x2,x3,x4⟩:=bx5 hB2
  by_cases hcl:c=100
  ·subst hcl
   go_wp2_with fail
   go_ret
   exact ⟨d,rfl,by omega,fun h=>by have:=nP_pos (Ex.mk k o n v xs); omega,⟨by rw [show min 101 (100+(nPL xs+1))=101 by omega]; exact c2,f2,by omega⟩,hT2⟩
  have hd1:decide ((100:Int)<(c:Int)+1)=false:=decide_eq_false (by omega)
  have hd2:decide ((100:Int)<(d:Int))=false:=decide_eq_false (by omega)
  go_wp2_with fail
  clear x0 x1 x2 x3 x4 hd1
  have HB:=Lib.hid hB2
  clear hB2
  go_loopw [7,28] (fun dv i wr=>∃ j r cc:Nat,i=.int .i64 (j:Nat)∧dv=.int .i64 (r:Nat)∧j≤xs.length∧r≤101∧Hid (cc=min 101 (c+1+nPL (xs.take j)))∧Hid (c+1+nPL (xs.take j)≤100→r=d+dPL (xs.take j))∧wr.cell? ⟨pb,0,none⟩=some (.int .i64 (cc:Nat))∧wr.frozen? ⟨pb,0,none⟩=false∧Turn pb (pb+1) w wr∧w.heap.size+1≤wr.heap.size) (fun _ i _=>xs.length - (intOf i).toNat)
  case atStart=>exact ⟨0,d,c+1,rfl,rfl,Nat.zero_le _,by omega,Lib.hid (by simp [nPL]; omega),Lib.hid (fun _=>by simp [dPL]),c2,f2,hT2,by omega⟩
  case round=>
   clear c2 f2 hT2 hz2
   obtain ⟨j,r,cc,rfl,rfl,hj,hr,hcc,hrd,c3,f3,hT3,hz3⟩:=hrel
   have hj0:(0:Int)≤(j:Int):=by omega
   by_cases hlt:j<xs.length
   ·have hd1:decide ((j:Int)<(xs.length:Int))=true:=decide_eq_true (by omega)
    have hd3:decide (j<xs.length)=true:=decide_eq_true hlt
    have hwr1:IntKind.i64.wrap ((j:Int)+1)=(j:Int)+1:=by rw [IntKind.wrap_i64]; omega
    have hjl:(j:Int)<(xs.length:Int):=by omega
    obtain ⟨b,off,k1,o1,n1,v1,A1,m1,cap1,rfl,hb,hL1,y0,y1,y2,y3,y4⟩:=HARG.out j hlt
    have z0:=hT3.cell y0 (.inl (by show b<pb; omega))
    have z1:=hT3.cell y1 (.inl (by show b<pb; omega))
    have z2:=hT3.cell y2 (.inl (by show b<pb; omega))
    have z3:=hT3.cell y3 (.inl (by show b<pb; omega))
    have z4:=hT3.cell y4 (.inl (by show b<pb; omega))
    have hL3:=hL1.below' (hT3.below (by omega)) hlo
    have hO:=one_new wr #[.int .i64 k1,.int .i64 o1,.string n1,.int .i64 v1,.slice A1 m1 cap1] 38
    clear y0 y1 y2 y3 y4
    go_upto_region 8 with fail
    generalize wr.alloc _=w4 at hO ⊢
    have hpb3:pb<wr.heap.size:=by omega
    have c4:=(hO.below.cell (p:=⟨pb,0,none⟩) hpb3).trans c3
    have f4:=(hO.below.frozen (p:=⟨pb,0,none⟩) hpb3).trans f3
    have hT4:=hT3.below2 hO.below (by omega)
    have hL4:=hL3.below' hO.below (by omega)
    obtain ⟨x0,x1,x2,x3,x4⟩:=bx5 hO.fst
    have hz4:=hO.size
    clear hO hT3 hL1 hL3 c3 f3 z0 z1 z2 z3 z4 hd1 hd3 hjl
    by_cases hcl1:100<cc
    ·have e1:decide ((100:Int)<(cc:Int))=true:=decide_eq_true (by omega)
     have e2:decide (100<cc)=true:=decide_eq_true hcl1
     have HF:Hid (min 101 (c+(nPL xs+1))=cc∧¬ (c+(nPL xs+1)≤100)):=Lib.hid (by have h1:=hcc.out; have h2:=nPL_take_le xs j; exact ⟨by omega,by omega⟩)
     clear hcl1 hcc
     go_wp2_with fail
     refine bodyPost_ret (results_tmp rfl _ _ _) rfl ?_
     exact ⟨r,rfl,hr,fun h=>absurd h HF.out.2,⟨by rw [HF.out.1]; exact c4,f4,by omega⟩,hT4⟩
    ·have e1:decide ((100:Int)<(cc:Int))=false:=decide_eq_false (by omega)
     have e2:decide (100<cc)=false:=decide_eq_false hcl1
     have hcc1:cc=c+1+nPL (xs.take j):=by have:=hcc.out; omega
     have hs:=HIH.out xs[j] (List.getElem_mem _) lo pb cc (d+1) (exC k1 o1 n1 v1 A1 m1 cap1) w4 hL4 hlo ⟨c4,f4,by omega⟩ (by omega) (by omega)
     rw [Int.natCast_succ] at hs
     have HS:=Lib.hid hs
     have HT1:=Lib.hid (nP_take xs j hlt)
     have HT2:=Lib.hid (dP_take xs j hlt)
     have HR:=Lib.hid (hrd.out (by omega))
     have HCC:=Lib.hid hcc1
     have hwd:IntKind.i64.wrap ((d:Int)+1)=(d:Int)+1:=by rw [IntKind.wrap_i64]; omega
     unfold exC at HS
     clear hcc1 hcc hrd hL4 hs
     go_wp2_with fail
     refine HS.out.mono ?_
     rintro e w5 ⟨r5,rfl,hr5,hrd5,hC5,hT5⟩
     have HRD:=Lib.hid hrd5
     have HC5:=Lib.hid hC5
     have hz5:=hT5.size
     have hT6:=hT4.trans hT5
     clear hrd5 hC5 hT5 hT4 c4 f4 x0 x1 x2 x3 x4 HS
     go_wp2_with fail
     exact ⟨⟨j+1,max r r5,min 101 (cc+nP xs[j]),by go_num,by rw [show (if r<r5 then (r5:Int) else (r:Int))=((max r r5:Nat):Int) by split <;> omega],by omega,by omega,
      Lib.hid (by have:=HT1.out; have:=HCC.out; omega),Lib.hid (fun h=>by have h1:=HT1.out; have h2:=HT2.out; have h3:=HCC.out; have h4:=HRD.out (by omega); have h5:=HR.out; have h6:=dP_pos xs[j]; omega),
      HC5.out.1,HC5.out.2.1,hT6,by omega⟩,by simp [intOf]; omega⟩
   ·have hd1:decide ((j:Int)<(xs.length:Int))=false:=decide_eq_false (by omega)
    have hd3:decide (j<xs.length)=false:=decide_eq_false hlt
    have htk:xs.take j=xs:=List.take_of_length_le (by omega)
    have HF:Hid (cc=min 101 (c+(nPL xs+1))):=Lib.hid (by have:=hcc.out; rw [htk] at this; omega)
    have HG:Hid (c+(nPL xs+1)≤100→r+1=d+(dPL xs+1)):=Lib.hid (fun h=>by have:=hrd.out; rw [htk] at this; have:=this (by omega); omega)
    clear hcc hrd htk
    go_wp2_with fail
    refine bodyPost_ret (results_tmp rfl _ _ _) rfl ?_
    exact ⟨r,rfl,hr,HG.out,⟨by rw [← HF.out]; exact c3,f3,by omega⟩,hT3⟩
end Go.Proofs.YtmbffkemfepekaaGreatDoor
