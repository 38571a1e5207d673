/- What every law's row asks, once a walk has shown that the law returns true and that nothing older than the call has changed; arguments of type api.Policy and []api.Attributes opened. Conditions: every parameter's type is a readable one. -/
import Derived.Test.YtmbffkemfepekaaGreatDoorPtCmp
import Derived.Carry
import Derived.OpenShut
import Derived.WalkKit
import Derived.Deep.DeepHandedRow
import Derived.ProofKit
import Derived.Deep.SlicePairs
import Derived.Lib.LaidTab
import Derived.Lib.SmallJoins
import Derived.Test.YtmbffkemfepekaaGreatDoorProg
import Derived.Test.YtmbffkemfepekaaGreatDoorPtBase
import Derived.Shelf.Strings.Builder1
namespace Go.Proofs.YtmbffkemfepekaaGreatDoor
open Go.ChangeShapes Go.WideShapes Go.ChangeAt Go.RowKit Go.Deep

section
variable {H:Type} {enc:TypeId × Value→H} {P:Program}

theorem trodAll_stays (hl:laidOutB P=true) {W W':World} {sp:Nat→Bool} (hb:Below W.heap.size W W') :
  ∀ {ts:List TypeId} {vs:List Value} {ds:List (DataW H)} {p:List MemPlace},(∀ t∈ts,P.readableRec t=true∧t<P.types.size) →
   DataW.TrodAll enc P W 0 (fun _=>true) true ts vs ds p→(∀ x∈p,x.block<W.heap.size)→(∀ x∈p,sp x.block=true)→DataW.TrodAll enc P W' 0 sp true ts vs ds p
 | [],_,_,_,_,h,_,_=>by
  obtain ⟨rfl,rfl,rfl⟩:=trodAll_nil h
  exact trodAll_mk0
 | t::ts,_,_,_,hr,h,hlt,hs=>by
  obtain ⟨v,vs1,d,ds1,a,b,rfl,rfl,rfl,h1,h2⟩:=trodAll_cons h
  have ht:=hr t (by simp)
  refine ⟨a,b,Go.WideElems.Trod_stays hl ht.1 ht.2 h1 (fun x hx=>hb.same (hlt x (by simp [hx]))) (fun x hx=>hs x (by simp [hx])),trodAll_stays hl hb (fun t h=>hr t (by simp [h])) h2 (fun x hx=>hlt x (by simp [hx])) (fun x hx=>hs x (by simp [hx])),rfl⟩

/-- THE POST OF A LAW, from 'it returned true' and 'what lay below the heap's end is as it was'. -/
theorem post_law {f:Func} {s:ChangeSpec} {apart fresh handsOn again:Bool} {W W':World} {args:Array Value} {ds gs:List (DataW H)} {before:List MemPlace} {tb:TypeId}
  (hl:laidOutB P=true) (hr:∀ t∈f.params.toList,P.readableRec t=true∧t<P.types.size) (hv:s.vars=[])
  (hrt:f.resultTypes=#[tb]) (htb:P.underlying tb=some .bool)
  (hW:DataW.Whole enc P f.params.toList s.vars apart W args.toList ds gs before)
  (hres:(s.fn H (ds++gs)).results=[.lit (.bool true)]) (hargs:(s.fn H (ds++gs)).args=ds) (hvars:(s.fn H (ds++gs)).vars=[])
  (hb:Below W.heap.size W W'):s.post enc P f apart fresh handsOn again W args (.bool true) W':=by
 have hlt:=hW.lt
 have hW0:=hW
 obtain ⟨p,q,hA,hV,rfl,hz,hn⟩:=hW
 rw [hv] at hV
 obtain ⟨rfl,rfl⟩:=trodVars_none hV
 rw [List.append_nil] at hlt hz hn
 have hR:∀ (b:Nat) (sp:Nat→Bool) (hd:Bool),DataW.TrodAll enc P W' b sp hd f.resultTypes.toList ((Value.bool true).resultList f.resultTypes.size) (s.fn H (ds++[])).results []:=by
  intro b sp hd
  rw [hres,hrt]
  exact trodAll_cons_mk (shut_bool htb _) trodAll_mk0
 have hA':∀ sp:Nat→Bool,(∀ x∈p,sp x.block=true)→DataW.TrodAll enc P W' 0 sp true f.params.toList args.toList (s.fn H (ds++[])).args p:=by
  intro sp hs
  rw [hargs]
  exact trodAll_stays hl hb hr hA hlt hs
 have hV':∀ sp,DataW.TrodVars enc P W' sp s.vars (s.fn H (ds++[])).vars []:=by
  intro sp
  rw [hvars,hv]
  rfl
 refine ⟨ds,[],p++[],[],p,[],hW0,hR _ _ _,hA' _ (fun x hx=>by simpa using hlt x hx),hV' _,hb.frame _,fun _=>⟨?_,_,_,[]++p,⟨[]++p,[],trodAll_append (hA' _ (fun _ _=>rfl)) (hR _ _ _),hV' _,by simp,?_,?_⟩,?_⟩⟩
 ·exact ok_one hrt rfl (okWide_bool_mk htb _)
 ·intro b off hp
  have hp':MemPlace.cell b off∈p:=by simpa using hp
  rw [hb.frozen (hlt _ hp')]
  exact hz b off hp'
 ·intro ha
  simpa using hn ha
 ·intro x hx _
  simpa using hx


end

section
variable {H:Type} {enc:TypeId × Value→H} {P:Program}
/-- A slice opened: its elements' cells, each of less fuel. -/
theorem open_cells {α:Type} [Inhabited α] {W:World} {t e:TypeId} {s:Nat} {Q:List Value→α→Prop} (ht:P.underlying t=some (.slice e)) (hs:P.cellsOf e=s) (hpos:0<s) {fuel:Nat}
  (each:∀ (f:Nat) (cs:List Value) (x:DataW H × List MemPlace),f<fuel→cs.length=s→DataW.trod enc P W 0 (fun _=>true) true f e cs=some x→∃ y,Q cs y)
  {cs:List Value} {x:DataW H × List MemPlace} (h:DataW.trod enc P W 0 (fun _=>true) true fuel t cs=some x) :
  ∃ (A:Option Addr) (c len:Nat) (F:Nat→List Value × α),cs=[.slice A len c]∧len≤c∧len≤maxLen∧(len=0∨∃ b off:Nat,A=some ⟨b,off,none⟩∧b<W.heap.size∧∀ i,i<len→∀ j u,(F i).1[j]? = some u→W.cell? ⟨b,off+i * s+j,none⟩=some u) ∧
   ∀ i,i<len→(F i).1.length=s∧Q (F i).1 (F i).2:=by
 rcases DataW.trod_slice ht h with ⟨rfl,-⟩ | ⟨a,len,cap,elems,rest,n,hf,rfl,-,-,hl,hm,hlen,hel,-,-⟩
 ·exact ⟨none,0,0,fun _=>([],default),rfl,Nat.le_refl _,by simp,.inl rfl,fun i hi=>absurd hi (by omega)⟩
 ·have hall:∀ i,i<len→∃ y:List Value × α,(y.1.length=s∧∀ j,j<s→W.cell? (a.add (i * s+j))=y.1[j]?)∧Q y.1 y.2:=by
   intro i hi
   have key:=hel i hi
   rw [List.getElem?_eq_getElem (by omega)] at key
   obtain ⟨cs',h1,h2⟩:=Option.bind_eq_some_iff.1 key
   rw [hs] at h1
   obtain ⟨-,hln,hcell⟩:=World.cells?_some h1
   obtain ⟨y,hy⟩:=each n _ _ (by omega) hln h2
   exact ⟨(cs',y),⟨hln,fun j hj=>by have:=hcell j hj; rwa [add_add] at this⟩,hy⟩
  obtain ⟨F,hF⟩:=choose_lt hall
  refine ⟨some a,cap,len,F,rfl,hl,Nat.le_trans hl hm,?_,fun i hi=>⟨(hF i hi).1.1,(hF i hi).2⟩⟩
  by_cases h0:len=0
  ·exact .inl h0
  ·right
   have hf0:∃ u,W.cell? a=some u:=by
    have h2:=(hF 0 (by omega)).1
    have:=h2.2 0 hpos
    rw [List.getElem?_eq_getElem (by rw [h2.1]; exact hpos)] at this
    exact ⟨_,by simpa [Addr.add] using this⟩
   obtain ⟨u0,hc0⟩:=hf0
   obtain ⟨b,off,spot⟩:=a
   have hsp:spot=none:=by
    simp only [World.cell?] at hc0
    split at hc0
    ·split at hc0
     ·cases hc0
     ·rename_i hs; simpa using hs
    ·cases hc0
   subst hsp
   refine ⟨b,off,rfl,block_lt_of_cell hc0,fun i hi j u hu=>?_⟩
   have h2:=(hF i hi).1
   have hj:j<s:=by
    rcases Nat.lt_or_ge j s with h9 | h9
    ·exact h9
    ·rw [List.getElem?_eq_none (by rw [h2.1]; exact h9)] at hu; cases hu
   have:=h2.2 j hj
   rw [add_plain] at this
   rw [Nat.add_assoc,this,hu]
end
section
variable {H:Type} {enc:TypeId × Value→H} {W:World}
instance oppEx:Inhabited Ex:=⟨.mk 0 0 ByteArray.empty 0 []⟩
instance oppRl:Inhabited Rl:=⟨⟨default,default⟩⟩
instance oppBd:Inhabited Bd:=⟨⟨ByteArray.empty,0,0⟩⟩
instance oppAt:Inhabited At:=⟨⟨0,0,[]⟩⟩
theorem getD_map {α:Type} (f:Nat→α) {n i:Nat} (h:i<n):((List.range n).map f)[i]'(by simpa using h)=f i:=by simp
set_option maxRecDepth 100000 in
theorem open_expr:∀ (fuel:Nat) {cs:List Value} {x:DataW H × List MemPlace},cs.length=5→DataW.trod enc Tryz.prog W 0 (fun _=>true) true fuel 38 cs=some x→∃ e,LiesE W W.heap.size cs e:=by
 intro fuel
 induction fuel using Nat.strongRecOn with
 | _ fuel ih=>
  intro cs x hl h
  obtain ⟨xs,k,hk,-,-,hxl,hf⟩:=DataW.trod_struct Tryz.underlying38 h
  match xs,hxl,cs,hl with
  | [y0,y1,y2,y3,y4],_,[v0,v1,v2,v3,v4],_=>
   have g0:=hf 0 _ rfl
   have g1:=hf 1 _ rfl
   have g2:=hf 2 _ rfl
   have g3:=hf 3 _ rfl
   have g4:=hf 4 _ rfl
   obtain ⟨n0,e0,-,b0⟩:=DataW.trod_int Tryz.underlying3 (show DataW.trod enc Tryz.prog W 0 (fun _=>true) true k 3 [v0]=some y0 from g0)
   obtain ⟨n1,e1,-,b1⟩:=DataW.trod_int Tryz.underlying3 (show DataW.trod enc Tryz.prog W 0 (fun _=>true) true k 3 [v1]=some y1 from g1)
   obtain ⟨n2,e2,-,b2⟩:=DataW.trod_string Tryz.underlying9 (show DataW.trod enc Tryz.prog W 0 (fun _=>true) true k 9 [v2]=some y2 from g2)
   obtain ⟨n3,e3,-,b3⟩:=DataW.trod_int Tryz.underlying3 (show DataW.trod enc Tryz.prog W 0 (fun _=>true) true k 3 [v3]=some y3 from g3)
   obtain ⟨A,c,len,F,e4,hlc,hlm,hA,hq⟩:=open_cells (s:=5) (Q:=LiesE W W.heap.size) Tryz.underlying36 (by kernel_rfl) (by omega) (fun f cs x hlt hl h=>ih f (by omega) hl h) (show DataW.trod enc Tryz.prog W 0 (fun _=>true) true k 36 [v4]=some y4 from g4)
   simp only [List.cons.injEq,and_true] at e0 e1 e2 e3 e4
   subst e0 e1 e2 e3 e4
   have hlen:((List.range len).map fun i=>(F i).2).length=len:=by simp
   have key:=LiesE.mk (w:=W) (B:=W.heap.size) n0 n1 n2 n3 A c ((List.range len).map fun i=>(F i).2) (fun i=>(F i).1) ⟨bounds_i64 b0,bounds_i64 b1,bounds_i64 b3,by unfold maxLen at b2; omega,by rw [hlen]; unfold maxLen at hlm; omega,by rw [hlen]; exact hlc⟩
    (by rw [hlen]; exact hA) (fun i hi=>by rw [getD_map (fun i=>(F i).2) (by rw [← hlen]; exact hi)]; exact (hq i (by rw [← hlen]; exact hi)).2)
   rw [hlen] at key
   exact ⟨_,key⟩
def RuleQ (W:World) (cs:List Value) (r:Rl):Prop:=∃ (k o:Int) (n:ByteArray) (v:Int) (A1:Option Addr) (m1 c1:Nat) (k2 o2:Int) (n2:ByteArray) (v2:Int) (A2:Option Addr) (m2 c2:Nat),cs=exC k o n v A1 m1 c1++exC k2 o2 n2 v2 A2 m2 c2∧LiesE W W.heap.size (exC k o n v A1 m1 c1) r.cond∧LiesE W W.heap.size (exC k2 o2 n2 v2 A2 m2 c2) r.key
set_option maxRecDepth 100000 in
theorem open_rule {fuel:Nat} {cs:List Value} {x:DataW H × List MemPlace} (hl:cs.length=10) (h:DataW.trod enc Tryz.prog W 0 (fun _=>true) true fuel 40 cs=some x):∃ r,RuleQ W cs r:=by
 obtain ⟨xs,k,-,-,-,hxl,hf⟩:=DataW.trod_struct Tryz.underlying40 h
 match xs,hxl,cs,hl with
 | [y0,y1],_,[v0,v1,v2,v3,v4,v5,v6,v7,v8,v9],_=>
  have g0:=hf 0 _ rfl
  have g1:=hf 1 _ rfl
  obtain ⟨e0,h0⟩:=open_expr k (cs:=[v0,v1,v2,v3,v4]) rfl (show DataW.trod enc Tryz.prog W 0 (fun _=>true) true k 38 [v0,v1,v2,v3,v4]=some y0 from g0)
  obtain ⟨e1,h1⟩:=open_expr k (cs:=[v5,v6,v7,v8,v9]) rfl (show DataW.trod enc Tryz.prog W 0 (fun _=>true) true k 38 [v5,v6,v7,v8,v9]=some y1 from g1)
  obtain ⟨A0,c0,-,q0,-⟩:=h0.form
  obtain ⟨A1,c1,-,q1,-⟩:=h1.form
  rw [q0] at h0
  rw [q1] at h1
  refine ⟨⟨e0,e1⟩,_,_,_,_,_,_,_,_,_,_,_,_,_,_,?_,h0,h1⟩
  rw [← q0,← q1]
  rfl
set_option maxRecDepth 100000 in
/-- A SLICE OF RULES. -/
theorem open_rules {fuel:Nat} {cs:List Value} {x:DataW H × List MemPlace} (h:DataW.trod enc Tryz.prog W 0 (fun _=>true) true fuel 22 cs=some x) :
  ∃ (A:Option Addr) (c:Nat) (rs:List Rl),cs=[.slice A rs.length c]∧LiesP W W.heap.size A c rs:=by
 obtain ⟨A,c,len,F,rfl,hlc,hlm,hA,hq⟩:=open_cells (s:=10) (Q:=RuleQ W) Tryz.underlying22 (by kernel_rfl) (by omega) (fun f cs x _ hl h=>open_rule hl h) h
 have hlen:((List.range len).map fun i=>(F i).2).length=len:=by simp
 refine ⟨A,c,(List.range len).map fun i=>(F i).2,by rw [hlen],by rw [hlen]; unfold maxLen at hlm; omega,by rw [hlen]; exact hlc,fun i hi=>?_⟩
 have hi':i<len:=by rw [← hlen]; exact hi
 rw [getD_map (fun i=>(F i).2) hi']
 obtain ⟨k,o,n,v,A1,m1,c1,k2,o2,n2,v2,A2,m2,c2,e,h1,h2⟩:=(hq i hi').2
 rcases hA with h0 | ⟨b,off,rfl,hb,hc⟩
 ·omega
 ·have hcc:=hc i hi'
  rw [e] at hcc
  exact ⟨b,off,k,o,n,v,A1,m1,c1,k2,o2,n2,v2,A2,m2,c2,rfl,hb,h1,h2,hcc 0 _ rfl,hcc 1 _ rfl,hcc 2 _ rfl,hcc 3 _ rfl,hcc 4 _ rfl,hcc 5 _ rfl,hcc 6 _ rfl,hcc 7 _ rfl,hcc 8 _ rfl,hcc 9 _ rfl⟩
set_option maxRecDepth 100000 in
/-- AN ARGUMENT OF TYPE api.Policy. -/
theorem open_pol {v:Value} {d:DataW H} {ps:List MemPlace} {b0:Nat} (hval:Value.okWide Tryz.prog W .any b0 24 v) (h:DataW.Trod enc Tryz.prog W 0 (fun _=>true) true 24 v d ps) :
  ∃ (A:Option Addr) (c:Nat) (rs:List Rl),v=.agg #[.slice A rs.length c]∧LiesP W W.heap.size A c rs:=by
 obtain ⟨cs,rfl,hsz⟩:=okWide_struct Tryz.underlying24 hval
 have hsz1:cs.size=1:=hsz.trans (by kernel_rfl)
 obtain ⟨c0,rfl⟩:∃ c0,cs=#[c0]:=Array.size_eq_one_iff.1 hsz1
 obtain ⟨fuel,hf⟩:=h
 obtain ⟨xs,k,-,-,-,hxl,hfs⟩:=DataW.trod_struct Tryz.underlying24 hf
 match xs,hxl with
 | [y0],_=>
  have g0:=hfs 0 _ rfl
  obtain ⟨A,c,rs,e0,hP⟩:=open_rules (show DataW.trod enc Tryz.prog W 0 (fun _=>true) true k 22 [c0]=some y0 from g0)
  simp only [List.cons.injEq,and_true] at e0
  subst e0
  exact ⟨A,c,rs,rfl,hP⟩
end
end Go.Proofs.YtmbffkemfepekaaGreatDoor

namespace Go.Proofs.YtmbffkemfepekaaGreatDoor
open Go.Shelf Go.RowKit

def bldRen:Go.Shelf.Ren:=⟨fun | 166=>18 | 167=>115 | 240=>42 | 276=>72 | n=>n,fun | 70=>52 | 72=>55 | 37=>53 | 9=>9 | 4=>4 | 5=>5 | 0=>0 | 3=>3 | 20=>20 | 75=>58 | 76=>59 | 80=>61 | 164=>127 | n=>n,fun | n=>n⟩
theorem lays167:Go.Proofs.Lays.n167 Tryz.prog bldRen:={
 mixed:=by kernel_rfl
 f167:=Tryz.func115.trans (congrArg some (by kernel_rfl))
 f240:=Tryz.func42.trans (congrArg some (by kernel_rfl))
 f276:=Tryz.func72.trans (congrArg some (by kernel_rfl))
 t0:=Tryz.underlying0
 a0:=Tryz.isAgg0
 z0:=Tryz.sizeOf0
 v0:=Tryz.zeroValue0
 t4:=Tryz.underlying4
 a4:=Tryz.isAgg4
 z4:=Tryz.sizeOf4
 v4:=Tryz.zeroValue4
 t5:=Tryz.underlying5
 a5:=Tryz.isAgg5
 z5:=Tryz.sizeOf5
 v5:=Tryz.zeroValue5
 t9:=Tryz.underlying9
 a9:=Tryz.isAgg9
 z9:=Tryz.sizeOf9
 v9:=Tryz.zeroValue9
 t20:=Tryz.underlying20
 a20:=Tryz.isAgg20
 z20:=Tryz.sizeOf20
 v20:=Tryz.zeroValue20
 t37:=Tryz.underlying53
 a37:=Tryz.isAgg53
 z37:=Tryz.sizeOf53
 v37:=Tryz.zeroValue53
 t70:=Tryz.underlying52
 a70:=Tryz.isAgg52
 z70:=Tryz.sizeOf52
 v70:=Tryz.zeroValue52
 t72:=Tryz.underlying55
 a72:=Tryz.isAgg55
 z72:=Tryz.sizeOf55
 v72:=Tryz.zeroValue55
 t75:=Tryz.underlying58
 a75:=Tryz.isAgg58
 z75:=Tryz.sizeOf58
 v75:=Tryz.zeroValue58
 t164:=Tryz.underlying127
 a164:=Tryz.isAgg127
 z164:=Tryz.sizeOf127
 v164:=Tryz.zeroValue127 }
theorem bldExtra:Builder.Extra Tryz.prog bldRen:={
 sizeBuilder:=by kernel_rfl
 liesBuilder:=by kernel_rfl
 t5:=Tryz.underlying5
 a5:=Tryz.isAgg5
 z5:=Tryz.sizeOf5
 v5:=Tryz.zeroValue5
 infoByte:=by kernel_rfl
 cellsByte:=by kernel_rfl
 sizeByte:=by kernel_rfl
 neB5:=by decide }
end Go.Proofs.YtmbffkemfepekaaGreatDoor

namespace Go.Proofs.YtmbffkemfepekaaGreatDoor

/-- A token. -/
structure Tk where
 kind:Int
 text:ByteArray
 val:Int
 pos:Nat
/-- How many bytes are blank or a comment. -/
def skipN:Bool→List UInt8→Nat
 | _,[]=>0
 | cm,c::r=>if c.toNat=10 then skipN false r+1 else if cm then skipN true r+1 else if c.toNat=35 then skipN true r+1 else if c.toNat=32∨c.toNat=9 then skipN false r+1 else 0
/-- How many bytes at the beginning are of a kind. -/
def runN (p:UInt8→Bool):List UInt8→Nat
 | []=>0
 | c::r=>if p c then runN p r+1 else 0
theorem runN_le (p:UInt8→Bool):∀ l,runN p l≤l.length
 | []=>by simp [runN]
 | c::r=>by unfold runN; split <;> simp <;> have:=runN_le p r <;> omega
theorem skipN_le:∀ b l,skipN b l≤l.length
 | _,[]=>by simp [skipN]
 | b,c::r=>by
  unfold skipN
  have h1:=skipN_le false r
  have h2:=skipN_le true r
  simp only [List.length_cons]
  split
  ·omega
  ·split
   ·omega
   ·split
    ·omega
    ·split <;> omega
/-- The value of digits. -/
def numV (l:List UInt8):Nat:=l.foldl (fun n c=>n * 10+(c.toNat - 48)) 0
/-- A token's kind, length and value; or an error. -/
inductive TkR where
 | ok (kind:Int) (len:Nat) (val:Nat)
 | er (f:Nat)
def dblS:List (List UInt8):=[[38,38],[124,124],[61,61],[33,61],[60,61],[62,61]]
def sglS:List UInt8:=[60,62,43,45,42,47,37,33,61,40,41,123,125,44,59]
def nameT (l:List UInt8):TkR:=if 30<runN inB l then .er 5 else .ok 1 (runN inB l) 0
def badN (l:List UInt8):Bool:=(decide (1<runN digB l) && (match l with | []=>false | c::_=>c.toNat == 48)) || (match l.drop (runN digB l) with | []=>false | c::_=>letB c || c.toNat == 95)
def numT (l:List UInt8):TkR:=if badN l then .er 3 else if 1099511627776<numV (l.take (runN digB l)) then .er 2 else .ok 2 (runN digB l) (numV (l.take (runN digB l)))
def signT (l:List UInt8):TkR:=if dblS.contains (l.take 2) then .ok 3 2 0 else if (match l with | []=>false | c::_=>sglS.contains c) then .ok 3 1 0 else .er 3
def tok1 (l:List UInt8):TkR:=match l with
 | []=>.er 3
 | c::_=>if letB c then nameT l else if digB c then numT l else signT l
/-- Tokens, or an error and its place. -/
inductive TksR where
 | ok (l:List Tk)
 | er (at_ f:Nat)
def subB (s:ByteArray) (i n:Nat):ByteArray:=⟨((s.data.toList.drop i).take n).toArray⟩
/-- The tokens from a place on at which one begins or the text ends. -/
def toksF (s:ByteArray):Nat→Nat→List Tk→TksR
 | 0,_,acc=>.ok acc
 | f+1,i,acc=>if i<s.size then (match tok1 (s.data.toList.drop i) with
   | .er e=>.er i e
   | .ok k n v=>toksF s f (i+n+skipN false (s.data.toList.drop (i+n))) (acc++[⟨k,subB s i n,v,i⟩]))
  else .ok (acc++[⟨0,ByteArray.empty,0,s.size⟩])
def toksE (s:ByteArray):TksR:=if 4000<s.size then .er 0 4 else toksF s (s.size+1) (skipN false s.data.toList) []

def kwL:List (List UInt8):=[[97,99,113,117,105,114,101],[97,100,100],[97,110,121],[97,114,114,105,118,101],[97,115],[97,115,115,101,114,116],[97,116,111,109,105,99],[97,119,97,105,116],[98,97,114,114,105,101,114],[98,101,103,105,110],[98,114,111,97,100,99,97,115,116],[98,117,100,103,101,116],[99,97,108,108],[99,97,110,99,101,108],[99,104,97,110,110,101,108],[99,104,101,99,107,112,111,105,110,116],[99,108,101,97,110,117,112],[99,108,111,115,101],[99,111,109,112,108,101,116,101],[99,111,110,100],[100,101,97,100,108,105,110,101],[100,101,102,97,117,108,116],[100,101,102,101,114],[101,108,115,101],[101,109,105,116],[101,110,100],[101,118,101,114,121],[102,97,105,108],[102,117,110,99],[102,117,116,117,114,101],[105,102],[108,101,116],[108,105,109,105,116,101,114],[108,111,99,107],[109,97,115,107],[109,117,116,101,120],[110,101,120,116],[111,110],[112,114,105,111,114,105,116,121],[112,117,98,108,105,115,104],[114,101,97,100,108,111,99,107],[114,101,97,100,117,110,108,111,99,107],[114,101,99,101,105,118,101],[114,101,108,101,97,115,101],[114,101,112,101,97,116],[114,101,116,117,114,110],[114,119,108,111,99,107],[115,99,111,112,101],[115,101,108,101,99,116],[115,101,109,97,112,104,111,114,101],[115,101,110,100],[115,105,103,110,97,108],[115,108,101,101,112],[115,112,97,119,110],[115,117,98,115,99,114,105,98,101],[115,119,97,112],[116,97,107,101],[116,97,115,107],[116,111,112,105,99],[116,114,121,97,99,113,117,105,114,101],[116,114,121,108,111,99,107],[117,110,108,111,99,107],[117,110,115,117,98,115,99,114,105,98,101],[118,97,114],[119,97,105,116],[119,104,105,108,101],[119,114,105,116,101,108,111,99,107],[119,114,105,116,101,117,110,108,111,99,107],[121,105,101,108,100]]
def kwB (s:ByteArray):Bool:=kwL.contains s.data.toList
/-- Decimal digits. -/
def decF:Nat→Nat→List UInt8
 | 0,_=>[]
 | f+1,n=>if n<10 then [UInt8.ofNat (48+n)] else decF f (n / 10)++[UInt8.ofNat (48+n % 10)]
def decL (n:Nat):List UInt8:=decF 20 n
/-- Operators with two arguments, by sign: number and precedence; (0, 0) if it is none. -/
def opS (t:List UInt8):Int × Nat:=
 if t=[124,124] then (15,1) else if t=[38,38] then (14,2)
 else if t=[61,61] then (8,3) else if t=[33,61] then (9,3) else if t=[60] then (10,3) else if t=[60,61] then (11,3) else if t=[62] then (12,3) else if t=[62,61] then (13,3)
 else if t=[43] then (3,4) else if t=[45] then (4,4)
 else if t=[42] then (5,5) else if t=[47] then (6,5) else if t=[37] then (7,5) else (0,0)
/-- An expression and the index behind it, or the index of what cannot follow; or too few steps. -/
inductive PR where
 | ok (e:Ex) (k:Nat)
 | bad (k:Nat)
 | out
def PR.bind (r:PR) (g:Ex→Nat→PR):PR:=match r with | .ok e k=>g e k | .bad k=>.bad k | .out=>.out
def isS (t:Tk) (c:List UInt8):Bool:=t.kind == 3 && t.text.data.toList == c
def numK (t:Tk):Bool:=t.kind == 2 && decide (0≤t.val) && decide (t.val≤1099511627776) && t.text.data.toList == decL t.val.toNat
def nameK (t:Tk):Bool:=t.kind == 1 && !kwB t.text && nmB t.text
def exNum (v:Int):Ex:=.mk 1 0 ByteArray.empty v []
def exName (n:ByteArray):Ex:=.mk 2 0 n 0 []
def exUn (o:Int) (e:Ex):Ex:=.mk 3 o ByteArray.empty 0 [e]
def exBin (o:Int) (a b:Ex):Ex:=.mk 4 o ByteArray.empty 0 [a,b]
/-- What is read: an operand, an expression of a precedence, what follows one of a precedence. -/
inductive Md where
 | opd
 | bin (p:Nat)
 | loop (p:Nat) (e:Ex)
/-- An operator of that precedence. -/
def opK (t:Tk) (p:Nat):Bool:=t.kind == 3 && (opS t.text.data.toList).2 == p
def closeP (ts:List Tk) (e:Ex) (i:Nat):PR:=match ts[i]? with | none=>.bad i | some u=>if isS u [41] then .ok e (i+1) else .bad i
def pP (ts:List Tk):Nat→Md→Nat→PR
 | 0,_,_=>.out
 | f+1,.opd,k=>(match ts[k]? with
  | none=>.bad k
  | some t=>if numK t then .ok (exNum t.val) (k+1)
   else if nameK t then .ok (exName t.text) (k+1)
   else if isS t [45] then (pP ts f .opd (k+1)).bind fun e i=>.ok (exUn 1 e) i
   else if isS t [33] then (pP ts f .opd (k+1)).bind fun e i=>.ok (exUn 2 e) i
   else if isS t [40] then (pP ts f (.bin 1) (k+1)).bind fun e i=>closeP ts e i
   else .bad k)
 | f+1,.bin p,k=>if 5<p then pP ts f .opd k else (pP ts f (.bin (p+1)) k).bind fun e i=>pP ts f (.loop p e) i
 | f+1,.loop p e,k=>(match ts[k]? with
  | none=>.ok e k
  | some t=>if opK t p then (pP ts f (.bin (p+1)) (k+1)).bind fun e2 i=>(if p=3 then .ok (exBin (opS t.text.data.toList).1 e e2) i else pP ts f (.loop p (exBin (opS t.text.data.toList).1 e e2)) i)
   else .ok e k)
theorem pP_o (ts:List Tk) (f k:Nat):pP ts (f+1) .opd k=(match ts[k]? with
  | none=>.bad k
  | some t=>if numK t then .ok (exNum t.val) (k+1)
   else if nameK t then .ok (exName t.text) (k+1)
   else if isS t [45] then (pP ts f .opd (k+1)).bind fun e i=>.ok (exUn 1 e) i
   else if isS t [33] then (pP ts f .opd (k+1)).bind fun e i=>.ok (exUn 2 e) i
   else if isS t [40] then (pP ts f (.bin 1) (k+1)).bind fun e i=>closeP ts e i
   else .bad k):=by rw [pP]
theorem pP_b (ts:List Tk) (f p k:Nat):pP ts (f+1) (.bin p) k=if 5<p then pP ts f .opd k else (pP ts f (.bin (p+1)) k).bind fun e i=>pP ts f (.loop p e) i:=by rw [pP]
theorem pP_l (ts:List Tk) (f p:Nat) (e:Ex) (k:Nat):pP ts (f+1) (.loop p e) k=(match ts[k]? with
  | none=>.ok e k
  | some t=>if opK t p then (pP ts f (.bin (p+1)) (k+1)).bind fun e2 i=>(if p=3 then .ok (exBin (opS t.text.data.toList).1 e e2) i else pP ts f (.loop p (exBin (opS t.text.data.toList).1 e e2)) i)
   else .ok e k):=by rw [pP]
theorem bind_ne {r:PR} {g:Ex→Nat→PR} (h1:r≠.out) (h2:∀ e i,r=.ok e i→g e i≠.out):r.bind g≠.out:=by
 cases r with
 | ok e k=>exact h2 e k rfl
 | bad k=>intro h; cases h
 | out=>exact absurd rfl h1
theorem bind_ok {r:PR} {g:Ex→Nat→PR} {e:Ex} {k:Nat} (h:r.bind g=.ok e k):∃ e1 k1,r=.ok e1 k1∧g e1 k1=.ok e k:=by
 cases r with
 | ok e1 k1=>exact ⟨e1,k1,rfl,h⟩
 | bad k=>cases h
 | out=>cases h
theorem bind_bad {r:PR} {g:Ex→Nat→PR} {k:Nat} (h:r.bind g=.bad k):r=.bad k∨∃ e1 k1,r=.ok e1 k1∧g e1 k1=.bad k:=by
 cases r with
 | ok e1 k1=>exact .inr ⟨e1,k1,rfl,h⟩
 | bad k1=>simp only [PR.bind] at h; exact .inl h
 | out=>cases h
theorem bind_same {r r':PR} {g g':Ex→Nat→PR} (h1:r≠.out→r'=r) (h2:∀ e i,r=.ok e i→g e i≠.out→g' e i=g e i) (h:r.bind g≠.out):r'.bind g'=r.bind g:=by
 cases r with
 | ok e k=>rw [h1 (by intro h; cases h)]; exact h2 e k rfl h
 | bad k=>rw [h1 (by intro h; cases h)]; rfl
 | out=>exact absurd rfl h
/-- More steps change nothing. -/
theorem pP_more (ts:List Tk):∀ (f:Nat) (m:Md) (k:Nat),pP ts f m k≠.out→pP ts (f+1) m k=pP ts f m k
 | 0,m,k,h=>absurd (by simp only [pP]) h
 | f+1,.opd,k,h=>by
  rw [pP_o] at h
  rw [pP_o ts (f+1) k,pP_o ts f k]
  cases hk:ts[k]? with
  | none=>rfl
  | some t=>
   simp only [hk] at h ⊢
   split
   ·rfl
   ·split
    ·rfl
    ·split
     ·next h1 h2 h3=>rw [if_neg h1,if_neg h2,if_pos h3] at h; exact bind_same (pP_more ts f .opd (k+1)) (fun _ _ _ _=>rfl) h
     ·split
      ·next h1 h2 h3 h4=>rw [if_neg h1,if_neg h2,if_neg h3,if_pos h4] at h; exact bind_same (pP_more ts f .opd (k+1)) (fun _ _ _ _=>rfl) h
      ·split
       ·next h1 h2 h3 h4 h5=>rw [if_neg h1,if_neg h2,if_neg h3,if_neg h4,if_pos h5] at h; exact bind_same (pP_more ts f (.bin 1) (k+1)) (fun _ _ _ _=>rfl) h
       ·rfl
 | f+1,.bin p,k,h=>by
  rw [pP_b] at h
  rw [pP_b ts (f+1) p k,pP_b ts f p k]
  split
  ·next h1=>rw [if_pos h1] at h; exact pP_more ts f .opd k h
  ·next h1=>rw [if_neg h1] at h; exact bind_same (pP_more ts f (.bin (p+1)) k) (fun e i _ hne=>pP_more ts f (.loop p e) i hne) h
 | f+1,.loop p e,k,h=>by
  rw [pP_l] at h
  rw [pP_l ts (f+1) p e k,pP_l ts f p e k]
  cases hk:ts[k]? with
  | none=>rfl
  | some t=>
   simp only [hk] at h ⊢
   split
   ·next h1=>
    rw [if_pos h1] at h
    refine bind_same (pP_more ts f (.bin (p+1)) (k+1)) (fun e2 i _ hne=>?_) h
    split
    ·rfl
    ·next h3=>rw [if_neg h3] at hne; exact pP_more ts f _ i hne
   ·rfl
theorem pP_le (ts:List Tk) {f g:Nat} {m:Md} {k:Nat} (h:f≤g) (hn:pP ts f m k≠.out):pP ts g m k=pP ts f m k:=by
 induction g with
 | zero=>
  obtain rfl:f=0:=by omega
  rfl
 | succ g ih=>
  by_cases e:f=g+1
  ·rw [e]
  ·have h1:=ih (by omega)
   rw [pP_more ts g m k (by rw [h1]; exact hn),h1]
/-- What is read stands ahead of the index behind it. -/
theorem pP_step (ts:List Tk):∀ (f:Nat) (m:Md) (k:Nat) (e:Ex) (i:Nat),pP ts f m k=.ok e i→k≤ts.length→k≤i∧i≤ts.length∧((∃ p e',m=.loop p e')∨k<i)
 | 0,m,k,e,i,h,_=>by simp only [pP] at h; cases h
 | f+1,.opd,k,e,i,h,hl=>by
  rw [pP_o] at h
  cases hk:ts[k]? with
  | none=>rw [hk] at h; cases h
  | some t=>
   have hlt:k<ts.length:=(List.getElem?_eq_some_iff.1 hk).1
   simp only [hk] at h
   split at h
   ·injection h with _ h; exact ⟨by omega,by omega,.inr (by omega)⟩
   ·split at h
    ·injection h with _ h; exact ⟨by omega,by omega,.inr (by omega)⟩
    ·split at h
     ·obtain ⟨e1,k1,h1,h2⟩:=bind_ok h
      injection h2 with _ h2
      have:=pP_step ts f _ _ _ _ h1 (by omega)
      exact ⟨by omega,by omega,.inr (by omega)⟩
     ·split at h
      ·obtain ⟨e1,k1,h1,h2⟩:=bind_ok h
       injection h2 with _ h2
       have:=pP_step ts f _ _ _ _ h1 (by omega)
       exact ⟨by omega,by omega,.inr (by omega)⟩
      ·split at h
       ·obtain ⟨e1,k1,h1,h2⟩:=bind_ok h
        have:=pP_step ts f _ _ _ _ h1 (by omega)
        unfold closeP at h2
        cases hu:ts[k1]? with
        | none=>rw [hu] at h2; cases h2
        | some u=>
         have hlt1:k1<ts.length:=(List.getElem?_eq_some_iff.1 hu).1
         simp only [hu] at h2
         split at h2
         ·injection h2 with _ h2; exact ⟨by omega,by omega,.inr (by omega)⟩
         ·cases h2
       ·cases h
 | f+1,.bin p,k,e,i,h,hl=>by
  rw [pP_b] at h
  split at h
  ·have:=pP_step ts f _ _ _ _ h hl
   obtain ⟨a,b,c | c⟩:=this
   ·obtain ⟨_,_,c⟩:=c; cases c
   ·exact ⟨a,b,.inr c⟩
  ·obtain ⟨e1,k1,h1,h2⟩:=bind_ok h
   obtain ⟨a,b,c⟩:=pP_step ts f _ _ _ _ h1 hl
   obtain ⟨a2,b2,-⟩:=pP_step ts f _ _ _ _ h2 b
   rcases c with ⟨_,_,c⟩ | c
   ·cases c
   ·exact ⟨by omega,b2,.inr (by omega)⟩
 | f+1,.loop p e',k,e,i,h,hl=>by
  rw [pP_l] at h
  refine ⟨?_,?_,.inl ⟨p,e',rfl⟩⟩ <;>
  ·cases hk:ts[k]? with
   | none=>simp only [hk] at h; injection h with _ h; omega
   | some t=>
    have hlt:k<ts.length:=(List.getElem?_eq_some_iff.1 hk).1
    simp only [hk] at h
    split at h
    ·obtain ⟨e1,k1,h1,h2⟩:=bind_ok h
     obtain ⟨a,b,-⟩:=pP_step ts f _ _ _ _ h1 (by omega)
     split at h2
     ·injection h2 with _ h2; omega
     ·obtain ⟨a2,b2,-⟩:=pP_step ts f _ _ _ _ h2 b
      omega
    ·injection h with _ h; omega
/-- What cannot follow stands within the tokens. -/
theorem pP_bad (ts:List Tk):∀ (f:Nat) (m:Md) (k:Nat) (i:Nat),pP ts f m k=.bad i→k≤ts.length→i≤ts.length
 | 0,m,k,i,h,_=>by simp only [pP] at h; cases h
 | f+1,.opd,k,i,h,hl=>by
  rw [pP_o] at h
  cases hk:ts[k]? with
  | none=>simp only [hk] at h; injection h with h; omega
  | some t=>
   have hlt:k<ts.length:=(List.getElem?_eq_some_iff.1 hk).1
   simp only [hk] at h
   split at h
   ·cases h
   ·split at h
    ·cases h
    ·split at h
     ·rcases bind_bad h with h1 | ⟨e1,k1,h1,h2⟩
      ·exact pP_bad ts f _ _ _ h1 (by omega)
      ·cases h2
     ·split at h
      ·rcases bind_bad h with h1 | ⟨e1,k1,h1,h2⟩
       ·exact pP_bad ts f _ _ _ h1 (by omega)
       ·cases h2
      ·split at h
       ·rcases bind_bad h with h1 | ⟨e1,k1,h1,h2⟩
        ·exact pP_bad ts f _ _ _ h1 (by omega)
        ·have:=pP_step ts f _ _ _ _ h1 (by omega)
         unfold closeP at h2
         cases hu:ts[k1]? with
         | none=>simp only [hu] at h2; injection h2 with h2; omega
         | some u=>
          simp only [hu] at h2
          split at h2
          ·cases h2
          ·injection h2 with h2; omega
       ·injection h with h; omega
 | f+1,.bin p,k,i,h,hl=>by
  rw [pP_b] at h
  split at h
  ·exact pP_bad ts f _ _ _ h hl
  ·rcases bind_bad h with h1 | ⟨e1,k1,h1,h2⟩
   ·exact pP_bad ts f _ _ _ h1 hl
   ·exact pP_bad ts f _ _ _ h2 (pP_step ts f _ _ _ _ h1 hl).2.1
 | f+1,.loop p e',k,i,h,hl=>by
  rw [pP_l] at h
  cases hk:ts[k]? with
  | none=>simp only [hk] at h; cases h
  | some t=>
   have hlt:k<ts.length:=(List.getElem?_eq_some_iff.1 hk).1
   simp only [hk] at h
   split at h
   ·rcases bind_bad h with h1 | ⟨e1,k1,h1,h2⟩
    ·exact pP_bad ts f _ _ _ h1 (by omega)
    ·split at h2
     ·cases h2
     ·exact pP_bad ts f _ _ _ h2 (pP_step ts f _ _ _ _ h1 (by omega)).2.1
   ·cases h
/-- Enough steps. -/
theorem pP_ends (ts:List Tk):∀ (d k:Nat),k≤ts.length→ts.length - k≤d→(∀ f,8 * d+1≤f→pP ts f .opd k≠.out)∧(∀ q p f,6 - p≤q→8 * d+2+q≤f→pP ts f (.bin p) k≠.out)∧(∀ p e f,8 * d+1≤f→pP ts f (.loop p e) k≠.out):=by
 intro d
 induction d with
 | zero=>
  intro k hl hd
  have hk:ts[k]? = none:=List.getElem?_eq_none (by omega)
  have hO:∀ f,1≤f→pP ts f .opd k≠.out:=fun f hf=>by
   obtain ⟨g,rfl⟩:∃ g,f=g+1:=⟨f - 1,by omega⟩
   rw [pP_o,hk]; intro h; cases h
  have hL:∀ p e f,1≤f→pP ts f (.loop p e) k≠.out:=fun p e f hf=>by
   obtain ⟨g,rfl⟩:∃ g,f=g+1:=⟨f - 1,by omega⟩
   rw [pP_l,hk]; intro h; cases h
  refine ⟨fun f hf=>hO f (by omega),?_,fun p e f hf=>hL p e f (by omega)⟩
  intro q
  induction q with
  | zero=>
   intro p f hp hf
   obtain ⟨g,rfl⟩:∃ g,f=g+1:=⟨f - 1,by omega⟩
   rw [pP_b,if_pos (by omega)]
   exact hO g (by omega)
  | succ q ih=>
   intro p f hp hf
   obtain ⟨g,rfl⟩:∃ g,f=g+1:=⟨f - 1,by omega⟩
   rw [pP_b]
   split
   ·exact hO g (by omega)
   ·refine bind_ne (ih (p+1) g (by omega) (by omega)) fun e i h=>?_
    have:=pP_step ts g _ _ _ _ h hl
    rcases this with ⟨a,b,⟨_,_,c⟩ | c⟩
    ·cases c
    ·omega
 | succ d ihd=>
  intro k hl hd
  have hO:∀ f,8 * (d+1)+1≤f→pP ts f .opd k≠.out:=fun f hf=>by
   obtain ⟨g,rfl⟩:∃ g,f=g+1:=⟨f - 1,by omega⟩
   rw [pP_o]
   cases hk:ts[k]? with
   | none=>intro h; cases h
   | some t=>
    have hlt:k<ts.length:=(List.getElem?_eq_some_iff.1 hk).1
    obtain ⟨i1,i2,i3⟩:=ihd (k+1) (by omega) (by omega)
    simp only
    split
    ·intro h; cases h
    ·split
     ·intro h; cases h
     ·split
      ·exact bind_ne (i1 g (by omega)) fun e i _ h=>by cases h
      ·split
       ·exact bind_ne (i1 g (by omega)) fun e i _ h=>by cases h
       ·split
        ·refine bind_ne (i2 5 1 g (by omega) (by omega)) fun e i _=>?_
         unfold closeP
         split
         ·intro h; cases h
         ·split <;> (intro h; cases h)
        ·intro h; cases h
  have hL:∀ p e f,8 * (d+1)+1≤f→pP ts f (.loop p e) k≠.out:=fun p e f hf=>by
   obtain ⟨g,rfl⟩:∃ g,f=g+1:=⟨f - 1,by omega⟩
   rw [pP_l]
   cases hk:ts[k]? with
   | none=>intro h; cases h
   | some t=>
    have hlt:k<ts.length:=(List.getElem?_eq_some_iff.1 hk).1
    obtain ⟨i1,i2,i3⟩:=ihd (k+1) (by omega) (by omega)
    simp only
    split
    ·refine bind_ne (i2 6 (p+1) g (by omega) (by omega)) fun e i h=>?_
     obtain ⟨a,b,-⟩:=pP_step ts g _ _ _ _ h (by omega)
     split
     ·intro h; cases h
     ·exact (ihd i b (by omega)).2.2 _ _ g (by omega)
    ·intro h; cases h
  refine ⟨hO,?_,hL⟩
  intro q
  induction q with
  | zero=>
   intro p f hp hf
   obtain ⟨g,rfl⟩:∃ g,f=g+1:=⟨f - 1,by omega⟩
   rw [pP_b,if_pos (by omega)]
   exact hO g (by omega)
  | succ q ih=>
   intro p f hp hf
   obtain ⟨g,rfl⟩:∃ g,f=g+1:=⟨f - 1,by omega⟩
   rw [pP_b]
   split
   ·exact hO g (by omega)
   ·refine bind_ne (ih (p+1) g (by omega) (by omega)) fun e i h=>?_
    obtain ⟨a,b,c⟩:=pP_step ts g _ _ _ _ h hl
    rcases c with ⟨_,_,c⟩ | c
    ·cases c
    ·exact (ihd i b (by omega)).2.2 _ _ g (by omega)
/-- What has the form of an expression at the beginning of tokens. -/
def readP (ts:List Tk):PR:=pP ts (8 * ts.length+8) (.bin 1) 0
theorem readP_ne (ts:List Tk):readP ts≠.out:=(pP_ends ts ts.length 0 (by omega) (by omega)).2.1 5 1 _ (by omega) (by omega)
end Go.Proofs.YtmbffkemfepekaaGreatDoor
