/- What every law's row asks, once a walk has shown that the law returns true and that nothin · The lock analysis in plain Lean: what each function of lockorder computes. Conditions: non · lockorder's grow, walked: a place of the analysis' sta -/
import Derived.Test.YtkpjdanfpolimaaGreatLcCfn
import Derived.Carry
import Derived.OpenShut
import Derived.WalkKit
import Derived.Deep.DeepHandedRow
import Derived.ProofKit
import Derived.Deep.SlicePairs
import Derived.Lib.LaidTab
import Derived.Lib.SmallJoins
import Derived.Test.YtkpjdanfpolimaaGreatLcBase
import Derived.BigQuiet
import Derived.Lib.Hide
import Derived.Test.YtkpjdanfpolimaaGreatLcRefOb
import Derived.Deep.RegionHeld
import Derived.StillTailTactics
import Derived.Test.YtkpjdanfpolimaaGreatLcVar
set_option maxRecDepth 100000
set_option maxHeartbeats 6400000
namespace Go.Proofs.YtkpjdanfpolimaaGreat
section
open Go.ChangeShapes Go.WideShapes Go.ChangeAt Go.RowKit Go.Deep

section
variable {H:Type} {enc:TypeId × Value→H} {P:Program}

theorem trodAll_stays (hl:laidOutB P=true) {W W':World} {sp:Nat→Bool} (hb:Below W.heap.size W W') :
  ∀ {ts:List TypeId} {vs:List Value} {ds:List (DataW H)} {p:List MemPlace},(∀ t∈ts,P.readableRec t=true∧t<P.types.size) →
   DataW.TrodAll enc P W 0 (fun _=>true) true ts vs ds p→(∀ x∈p,x.block<W.heap.size)→(∀ x∈p,sp x.block=true)→DataW.TrodAll enc P W' 0 sp true ts vs ds p
 | [],_,_,_,_,h,_,_=>by
  obtain ⟨rfl,rfl,rfl⟩:=trodAll_nil h;exact trodAll_mk0
 | t::ts,_,_,_,hr,h,hlt,hs=>by
  obtain ⟨v,vs1,d,ds1,a,b,rfl,rfl,rfl,h1,h2⟩:=trodAll_cons h;have ht:=hr t (by simp);refine ⟨a,b,Go.WideElems.Trod_stays hl ht.1 ht.2 h1 (fun x hx=>hb.same (hlt x (by simp [hx]))) (fun x hx=>hs x (by simp [hx])),trodAll_stays hl hb (fun t h=>hr t (by simp [h])) h2 (fun x hx=>hlt x (by simp [hx])) (fun x hx=>hs x (by simp [hx])),rfl⟩

theorem post_law {f:Func} {s:ChangeSpec} {apart fresh handsOn again:Bool} {W W':World} {args:Array Value} {ds gs:List (DataW H)} {before:List MemPlace} {tb:TypeId}
  (hl:laidOutB P=true) (hr:∀ t∈f.params.toList,P.readableRec t=true∧t<P.types.size) (hv:s.vars=[])
  (hrt:f.resultTypes=#[tb]) (htb:P.underlying tb=some .bool)
  (hW:DataW.Whole enc P f.params.toList s.vars apart W args.toList ds gs before)
  (hres:(s.fn H (ds++gs)).results=[.lit (.bool true)]) (hargs:(s.fn H (ds++gs)).args=ds) (hvars:(s.fn H (ds++gs)).vars=[])
  (hb:Below W.heap.size W W'):s.post enc P f apart fresh handsOn again W args (.bool true) W':=by
 have hlt:=hW.lt;have hW0:=hW;obtain ⟨p,q,hA,hV,rfl,hz,hn⟩:=hW;rw [hv] at hV;obtain ⟨rfl,rfl⟩:=trodVars_none hV;rw [List.append_nil] at hlt hz hn
 have hR:∀ (b:Nat) (sp:Nat→Bool) (hd:Bool),DataW.TrodAll enc P W' b sp hd f.resultTypes.toList ((Value.bool true).resultList f.resultTypes.size) (s.fn H (ds++[])).results []:=by
  intro b sp hd;rw [hres,hrt];exact trodAll_cons_mk (shut_bool htb _) trodAll_mk0
 have hA':∀ sp:Nat→Bool,(∀ x∈p,sp x.block=true)→DataW.TrodAll enc P W' 0 sp true f.params.toList args.toList (s.fn H (ds++[])).args p:=by
  intro sp hs;rw [hargs];exact trodAll_stays hl hb hr hA hlt hs
 have hV':∀ sp,DataW.TrodVars enc P W' sp s.vars (s.fn H (ds++[])).vars []:=by
  intro sp;rw [hvars,hv];rfl
 refine ⟨ds,[],p++[],[],p,[],hW0,hR _ _ _,hA' _ (fun x hx=>by simpa using hlt x hx),hV' _,hb.frame _,fun _=>⟨?_,_,_,[]++p,⟨[]++p,[],trodAll_append (hA' _ (fun _ _=>rfl)) (hR _ _ _),hV' _,by simp,?_,?_⟩,?_⟩⟩
 ·exact ok_one hrt rfl (okWide_bool_mk htb _)
 ·intro b off hp
  have hp':MemPlace.cell b off∈p:=by simpa using hp
  rw [hb.frozen (hlt _ hp')];exact hz b off hp'
 ·intro ha
  simpa using hn ha
 ·intro x hx _
  simpa using hx


theorem open_rows {α:Type} [Inhabited α] {W:World} {t e:TypeId} {s:Nat} {cells:α→List Value} {Q:α→Prop} (ht:P.underlying t=some (.slice e)) (hs:P.cellsOf e=s) (hc:∀ x,(cells x).length=s) (hpos:0<s)
  (each:∀ (fuel:Nat) (cs:List Value) (x:DataW H × List MemPlace),cs.length=s→DataW.trod enc P W 0 (fun _=>true) true fuel e cs=some x→∃ y,cs=cells y∧Q y)
  {fuel:Nat} {cs:List Value} {x:DataW H × List MemPlace} (h:DataW.trod enc P W 0 (fun _=>true) true fuel t cs=some x) :
  ∃ (A:Option Addr) (c:Nat) (l:List α),cs=[.slice A l.length c]∧Rd W W.heap.size s A l.length (l.flatMap cells)∧l.length≤c∧l.length≤maxLen∧∀ y∈l,Q y:=by
 rcases open_slice ht h with ⟨rfl,-⟩ | ⟨a,len,cap,m,n,D,Pl,rfl,-,hl,hm,hmm,-,hx⟩
 ·exact ⟨none,0,[],rfl,Rd.nil_,Nat.le_refl _,by simp,by simp⟩
 ·have hall:∀ i,i<len→∃ y:α,(∀ j,j<s→W.cell? (a.add (i * s+j))=(cells y)[j]?)∧Q y:=by
   intro i hi;obtain ⟨cs',h1,h2⟩:=hx i (by rw [if_pos rfl] at hmm; omega);rw [hs] at h1;obtain ⟨-,hlen,hcell⟩:=World.cells?_some h1;obtain ⟨y,rfl,hy⟩:=each _ _ _ hlen h2;exact ⟨y,fun j hj=>by have:=hcell j hj; rwa [add_add] at this,hy⟩
  obtain ⟨F,hF⟩:=choose_lt hall;have hlen:((List.range len).map F).length=len:=by simp
  refine ⟨some a,cap,(List.range len).map F,by rw [hlen],?_,by rw [hlen]; exact hl,by rw [hlen]; exact Nat.le_trans hl hm,?_⟩
  ·refine ⟨flat_len hc _,?_⟩
   by_cases h0:len=0
   ·left; rw [hlen]; exact h0
   ·right
    have hf0:∃ u,W.cell? a=some u:=by
     have:=(hF 0 (by omega)).1 0 hpos;rw [List.getElem?_eq_getElem (by rw [hc]; exact hpos)] at this;exact ⟨_,by simpa [Addr.add] using this⟩
    obtain ⟨u0,hc0⟩:=hf0;obtain ⟨b,off,spot⟩:=a
    have hsp:spot=none:=by
     simp only [World.cell?] at hc0;split at hc0
     ·split at hc0
      ·cases hc0
      ·rename_i hs; simpa using hs
     ·cases hc0
    subst hsp;refine ⟨b,off,rfl,block_lt_of_cell hc0,fun j u hu=>?_⟩
    have hj:j<len * s:=by
     rcases Nat.lt_or_ge j (len * s) with h9 | h9
     ·exact h9
     ·rw [List.getElem?_eq_none (by rw [flat_len hc,hlen]; omega)] at hu; cases hu
    have hjs:j % s<s:=Nat.mod_lt _ hpos;have hjd:j / s<len:=Nat.div_lt_of_lt_mul (by rw [Nat.mul_comm]; exact hj);have hi:=(hF (j / s) hjd).1 (j % s) hjs;have e1:j / s * s+j % s=j:=by rw [Nat.mul_comm]; exact Nat.div_add_mod j s
    have hfa:=flat_at hc ((List.range len).map F) (j / s) (by rw [hlen]; exact hjd) (j % s) hjs;rw [e1] at hi hfa;rw [hfa] at hu;rw [add_plain] at hi;rw [hi,← hu];simp
  ·intro y hy
   obtain ⟨i,hi,rfl⟩:=List.mem_map.1 hy;exact (hF i (List.mem_range.1 hi)).2
end

section
variable {H:Type} {enc:TypeId × Value→H} {W:World}
instance opnIns:Inhabited Ins:=⟨⟨0,0,0,0,[],none,0⟩⟩
instance opnFn:Inhabited Fn:=⟨⟨ByteArray.empty,0,0,0,false,[],none,0⟩⟩
instance opnOb:Inhabited Ob:=⟨⟨ByteArray.empty,0,0,0⟩⟩
instance opnVr:Inhabited Vr:=⟨⟨ByteArray.empty,0,false⟩⟩

def InsQ (W:World) (i:Ins):Prop:=(I64 i.a∧I64 i.b∧I64 i.c∧∀ x∈i.args,I64 x)∧Rd W W.heap.size 1 i.argA i.args.length (i64s i.args)∧i.args.length≤maxLen∧i.args.length≤i.argC
def FnQ (W:World) (f:Fn):Prop:=RdL W W.heap.size 5 Ins.cells f.codeA f.code∧(f.code.length≤maxLen∧f.name.size≤maxLen∧f.code.length≤f.codeC)∧∀ i∈f.code,InsQ W i
def ObQ (o:Ob):Prop:=o.name.size≤maxLen
def VrQ (v:Vr):Prop:=v.name.size≤maxLen

theorem flat_ints:∀ l:List Int,l.flatMap (fun z:Int=>[Value.int .i64 z])=i64s l
 | []=>rfl
 | z::r=>by rw [List.flatMap_cons,flat_ints r]; rfl

theorem open_ints {fuel:Nat} {cs:List Value} {x:DataW H × List MemPlace} (h:DataW.trod enc Tryz.prog W 0 (fun _=>true) true fuel 27 cs=some x) :
  ∃ (A:Option Addr) (c:Nat) (l:List Int),cs=[.slice A l.length c]∧Rd W W.heap.size 1 A l.length (i64s l)∧l.length≤c∧l.length≤maxLen∧∀ y∈l,I64 y:=by
 obtain ⟨A,c,l,h1,h2,h3⟩:=open_rows (s:=1) (cells:=fun z:Int=>[.int .i64 z]) (Q:=I64) Tryz.underlying27 (by kernel_rfl) (fun _=>rfl) (by omega) (fun fuel cs x _ h=>by
  obtain ⟨z,rfl,-,hz⟩:=DataW.trod_int Tryz.underlying3 h;exact ⟨z,rfl,bounds_i64 hz⟩) h
 refine ⟨A,c,l,h1,?_,h3⟩;have e:=flat_ints l
 rwa [e] at h2

theorem open_instr {fuel:Nat} {cs:List Value} {x:DataW H × List MemPlace} (hl:cs.length=5) (h:DataW.trod enc Tryz.prog W 0 (fun _=>true) true fuel 63 cs=some x):∃ y,cs=Ins.cells y∧InsQ W y:=by
 obtain ⟨xs,k,-,-,-,hxl,hf⟩:=DataW.trod_struct Tryz.underlying63 h
 match xs,hxl,cs,hl with
 | [y0,y1,y2,y3,y4],_,[v0,v1,v2,v3,v4],_=>
  have g0:=hf 0 _ rfl;have g1:=hf 1 _ rfl;have g2:=hf 2 _ rfl;have g3:=hf 3 _ rfl;have g4:=hf 4 _ rfl;obtain ⟨n0,e0,-,b0⟩:=DataW.trod_int Tryz.underlying3 (show DataW.trod enc Tryz.prog W 0 (fun _=>true) true k 3 [v0]=some y0 from g0);obtain ⟨n1,e1,-,b1⟩:=DataW.trod_int Tryz.underlying3 (show DataW.trod enc Tryz.prog W 0 (fun _=>true) true k 3 [v1]=some y1 from g1);obtain ⟨n2,e2,-,b2⟩:=DataW.trod_int Tryz.underlying3 (show DataW.trod enc Tryz.prog W 0 (fun _=>true) true k 3 [v2]=some y2 from g2);obtain ⟨n3,e3,-,b3⟩:=DataW.trod_int Tryz.underlying3 (show DataW.trod enc Tryz.prog W 0 (fun _=>true) true k 3 [v3]=some y3 from g3);obtain ⟨A,c,l,e4,hr,hlc,hlm,hq⟩:=open_ints (show DataW.trod enc Tryz.prog W 0 (fun _=>true) true k 27 [v4]=some y4 from g4);simp only [List.cons.injEq,and_true] at e0 e1 e2 e3 e4
  subst e0 e1 e2 e3 e4;exact ⟨⟨n0,n1,n2,n3,l,A,c⟩,rfl,⟨bounds_i64 b1,bounds_i64 b2,bounds_i64 b3,hq⟩,hr,hlm,hlc⟩
theorem open_fn {fuel:Nat} {cs:List Value} {x:DataW H × List MemPlace} (hl:cs.length=6) (h:DataW.trod enc Tryz.prog W 0 (fun _=>true) true fuel 60 cs=some x):∃ y,cs=Fn.cells y∧FnQ W y:=by
 obtain ⟨xs,k,-,-,-,hxl,hf⟩:=DataW.trod_struct Tryz.underlying60 h
 match xs,hxl,cs,hl with
 | [y0,y1,y2,y3,y4,y5],_,[v0,v1,v2,v3,v4,v5],_=>
  have g0:=hf 0 _ rfl;obtain ⟨n0,e0,-,b0⟩:=DataW.trod_string Tryz.underlying9 (show DataW.trod enc Tryz.prog W 0 (fun _=>true) true k 9 [v0]=some y0 from g0);have g1:=hf 1 _ rfl;obtain ⟨n1,e1,-,b1⟩:=DataW.trod_int Tryz.underlying3 (show DataW.trod enc Tryz.prog W 0 (fun _=>true) true k 3 [v1]=some y1 from g1);have g2:=hf 2 _ rfl;obtain ⟨n2,e2,-,b2⟩:=DataW.trod_int Tryz.underlying3 (show DataW.trod enc Tryz.prog W 0 (fun _=>true) true k 3 [v2]=some y2 from g2);have g3:=hf 3 _ rfl;obtain ⟨n3,e3,-,b3⟩:=DataW.trod_int Tryz.underlying3 (show DataW.trod enc Tryz.prog W 0 (fun _=>true) true k 3 [v3]=some y3 from g3);have g4:=hf 4 _ rfl;obtain ⟨n4,e4,-⟩:=DataW.trod_bool Tryz.underlying4 (show DataW.trod enc Tryz.prog W 0 (fun _=>true) true k 4 [v4]=some y4 from g4);have g5:=hf 5 _ rfl
  obtain ⟨A5,c5,l5,e5,hr5,hc5,hm5,hq5⟩:=open_rows (s:=5) (cells:=Ins.cells) (Q:=InsQ W) Tryz.underlying58 (by kernel_rfl) (fun _=>rfl) (by omega) (fun _ _ _=>open_instr) (show DataW.trod enc Tryz.prog W 0 (fun _=>true) true k 58 [v5]=some y5 from g5);simp only [List.cons.injEq,and_true] at e0 e1 e2 e3 e4 e5;subst e0 e1 e2 e3 e4 e5;exact ⟨⟨n0,n1,n2,n3,n4,l5,A5,c5⟩,rfl,hr5,⟨hm5,b0,hc5⟩,hq5⟩

theorem open_ob {fuel:Nat} {cs:List Value} {x:DataW H × List MemPlace} (hl:cs.length=4) (h:DataW.trod enc Tryz.prog W 0 (fun _=>true) true fuel 65 cs=some x):∃ y,cs=Ob.cells y∧ObQ y:=by
 obtain ⟨xs,k,-,-,-,hxl,hf⟩:=DataW.trod_struct Tryz.underlying65 h
 match xs,hxl,cs,hl with
 | [y0,y1,y2,y3],_,[v0,v1,v2,v3],_=>
  have g0:=hf 0 _ rfl;obtain ⟨n0,e0,-,b0⟩:=DataW.trod_string Tryz.underlying9 (show DataW.trod enc Tryz.prog W 0 (fun _=>true) true k 9 [v0]=some y0 from g0);have g1:=hf 1 _ rfl;obtain ⟨n1,e1,-,b1⟩:=DataW.trod_int Tryz.underlying3 (show DataW.trod enc Tryz.prog W 0 (fun _=>true) true k 3 [v1]=some y1 from g1);have g2:=hf 2 _ rfl;obtain ⟨n2,e2,-,b2⟩:=DataW.trod_int Tryz.underlying3 (show DataW.trod enc Tryz.prog W 0 (fun _=>true) true k 3 [v2]=some y2 from g2);have g3:=hf 3 _ rfl;obtain ⟨n3,e3,-,b3⟩:=DataW.trod_int Tryz.underlying3 (show DataW.trod enc Tryz.prog W 0 (fun _=>true) true k 3 [v3]=some y3 from g3);simp only [List.cons.injEq,and_true] at e0 e1 e2 e3;subst e0 e1 e2 e3;exact ⟨⟨n0,n1,n2,n3⟩,rfl,b0⟩

theorem open_vr {fuel:Nat} {cs:List Value} {x:DataW H × List MemPlace} (hl:cs.length=3) (h:DataW.trod enc Tryz.prog W 0 (fun _=>true) true fuel 67 cs=some x):∃ y,cs=Vr.cells y∧VrQ y:=by
 obtain ⟨xs,k,-,-,-,hxl,hf⟩:=DataW.trod_struct Tryz.underlying67 h
 match xs,hxl,cs,hl with
 | [y0,y1,y2],_,[v0,v1,v2],_=>
  have g0:=hf 0 _ rfl;obtain ⟨n0,e0,-,b0⟩:=DataW.trod_string Tryz.underlying9 (show DataW.trod enc Tryz.prog W 0 (fun _=>true) true k 9 [v0]=some y0 from g0);have g1:=hf 1 _ rfl;obtain ⟨n1,e1,-,b1⟩:=DataW.trod_int Tryz.underlying3 (show DataW.trod enc Tryz.prog W 0 (fun _=>true) true k 3 [v1]=some y1 from g1);have g2:=hf 2 _ rfl;obtain ⟨n2,e2,-⟩:=DataW.trod_bool Tryz.underlying4 (show DataW.trod enc Tryz.prog W 0 (fun _=>true) true k 4 [v2]=some y2 from g2);simp only [List.cons.injEq,and_true] at e0 e1 e2;subst e0 e1 e2;exact ⟨⟨n0,n1,n2⟩,rfl,b0⟩

theorem open_prg {v:Value} {d:DataW H} {ps:List MemPlace} {b0:Nat} (hval:Value.okWide Tryz.prog W .any b0 26 v) (h:DataW.Trod enc Tryz.prog W 0 (fun _=>true) true 26 v d ps) :
  ∃ p:Prg,v=p.val∧Lies W W.heap.size p∧Fits p:=by
 obtain ⟨v0,v1,v2,y0,y1,y2,k,rfl,-,-,g0,g1,g2⟩:=Go.Joins.open_agg3 Tryz.underlying26 (by kernel_rfl) (by kernel_rfl) hval h;obtain ⟨A0,c0,l0,e0,hr0,hc0,hm0,hq0⟩:=open_rows (s:=6) (cells:=Fn.cells) (Q:=FnQ W) Tryz.underlying22 (by kernel_rfl) (fun _=>rfl) (by omega) (fun _ _ _=>open_fn) g0;obtain ⟨A1,c1,l1,e1,hr1,hc1,hm1,hq1⟩:=open_rows (s:=4) (cells:=Ob.cells) (Q:=ObQ) Tryz.underlying23 (by kernel_rfl) (fun _=>rfl) (by omega) (fun _ _ _=>open_ob) g1;obtain ⟨A2,c2,l2,e2,hr2,hc2,hm2,hq2⟩:=open_rows (s:=3) (cells:=Vr.cells) (Q:=VrQ) Tryz.underlying24 (by kernel_rfl) (fun _=>rfl) (by omega) (fun _ _ _=>open_vr) g2;simp only [List.cons.injEq,and_true] at e0 e1 e2;subst e0 e1 e2
 exact ⟨⟨l0,A0,c0,l1,A1,c1,l2,A2,c2⟩,rfl,
  ⟨hr0,hr1,hr2,fun f hf=>(hq0 f hf).1,fun f hf i hi=>((hq0 f hf).2.2 i hi).2.1,hm0,hm1,hm2,fun f hf=>(hq0 f hf).2.1,⟨hc0,hc1,hc2⟩,fun f hf i hi=>((hq0 f hf).2.2 i hi).2.2,hq1,hq2⟩,
  fun f hf i hi=>((hq0 f hf).2.2 i hi).1⟩
end
end
section
open Go.RowKit
abbrev BS:=BitVec 32
def sv (s:BS):Value:=.int .u32 (s.toNat:Int)
def bit (n:Nat):BS:=1#32 <<< n
instance:Inhabited Ins:=⟨⟨0,0,0,0,[],none,0⟩⟩
instance:Inhabited Fn:=⟨⟨ByteArray.empty,0,0,0,false,[],none,0⟩⟩
instance:Inhabited Ob:=⟨⟨ByteArray.empty,0,0,0⟩⟩
def Prg.fn (p:Prg) (f:Nat):Fn:=p.funs.getD f default
def Fn.ins (x:Fn) (k:Nat):Ins:=x.code.getD k default
def Prg.len (p:Prg) (f:Nat):Nat:=(p.fn f).code.length
def Prg.ins (p:Prg) (f k:Nat):Ins:=(p.fn f).ins k
inductive Slot where
 | ent (f:Nat)
 | fin (f:Nat)
 | at_ (f k:Nat)
 deriving DecidableEq
structure S where
 ent:List (Bool × BS)
 fin:List (Bool × BS)
 cell:List (List (Bool × BS))
 ch:Bool
 deriving DecidableEq
def S.get (s:S):Slot→Bool × BS
 | .ent f=>s.ent.getD f (false,0)
 | .fin f=>s.fin.getD f (false,0)
 | .at_ f k=>(s.cell.getD f []).getD k (false,0)
def S.set (s:S):Slot→Bool × BS→S
 | .ent f,v=>{ s with ent:=s.ent.set f v }
 | .fin f,v=>{ s with fin:=s.fin.set f v }
 | .at_ f k,v=>{ s with cell:=s.cell.set f ((s.cell.getD f []).set k v) }
structure S.Sized (p:Prg) (s:S):Prop where
 ent:s.ent.length=p.funs.length
 fin:s.fin.length=p.funs.length
 cell:s.cell.length=p.funs.length
 row:∀ f,f<p.funs.length→(s.cell.getD f []).length=p.len f
def Slot.In (p:Prg):Slot→Prop
 | .ent f=>f<p.funs.length
 | .fin f=>f<p.funs.length
 | .at_ f k=>f<p.funs.length∧k<p.len f
theorem S.Sized.set {p:Prg} {s:S} (h:s.Sized p) (x:Slot) (v:Bool × BS):(s.set x v).Sized p:=by
 cases x with
 | ent f=>exact ⟨by simp [S.set,h.ent],h.fin,h.cell,h.row⟩
 | fin f=>exact ⟨h.ent,by simp [S.set,h.fin],h.cell,h.row⟩
 | at_ f k=>
  refine ⟨h.ent,h.fin,by simp [S.set,h.cell],fun g hg=>?_⟩;simp only [S.set];by_cases e:f=g
  ·subst e
   rw [List.getD_eq_getElem?_getD,List.getElem?_set_self (by rw [h.cell]; exact hg)];simp only [Option.getD_some,List.length_set];exact h.row f hg
  ·rw [List.getD_eq_getElem?_getD,List.getElem?_set_ne e,← List.getD_eq_getElem?_getD]
   exact h.row g hg
theorem S.get_set {p:Prg} {s:S} (h:s.Sized p) {x:Slot} (hx:x.In p) (v:Bool × BS) (y:Slot):(s.set x v).get y=if y=x then v else s.get y:=by
 cases x with
 | ent f=>
  cases y with
  | ent g=>
   simp only [S.set,S.get,Slot.ent.injEq,List.getD_eq_getElem?_getD];by_cases e:g=f
   ·subst e
    rw [if_pos rfl,List.getElem?_set_self (by rw [h.ent]; exact hx)]; rfl
   ·rw [if_neg e,List.getElem?_set_ne (fun z=>e z.symm)]
  | fin g=>simp [S.set,S.get]
  | at_ g k=>simp [S.set,S.get]
 | fin f=>
  cases y with
  | fin g=>
   simp only [S.set,S.get,Slot.fin.injEq,List.getD_eq_getElem?_getD];by_cases e:g=f
   ·subst e
    rw [if_pos rfl,List.getElem?_set_self (by rw [h.fin]; exact hx)]; rfl
   ·rw [if_neg e,List.getElem?_set_ne (fun z=>e z.symm)]
  | ent g=>simp [S.set,S.get]
  | at_ g k=>simp [S.set,S.get]
 | at_ f k=>
  cases y with
  | ent g=>simp [S.set,S.get]
  | fin g=>simp [S.set,S.get]
  | at_ g j=>
   simp only [S.set,S.get,Slot.at_.injEq,List.getD_eq_getElem?_getD];by_cases e:g=f
   ·subst e
    rw [List.getElem?_set_self (by rw [h.cell]; exact hx.1)];simp only [Option.getD_some,true_and];by_cases e2:j=k
    ·subst e2
     have hr:=h.row g hx.1;rw [List.getD_eq_getElem?_getD] at hr;rw [if_pos rfl,List.getElem?_set_self (by rw [hr]; exact hx.2)]; rfl
    ·rw [if_neg e2,List.getElem?_set_ne (fun z=>e2 z.symm)]
   ·rw [if_neg (fun z=>e z.1),List.getElem?_set_ne (fun z=>e z.symm)]
def S.grow (s:S) (x:Slot) (l:BS):S:=
 { s.set x (true,(s.get x).2 ||| l) with ch:=s.ch || !(s.get x).1 || (s.get x).2 ||| l != (s.get x).2 }
theorem S.Sized.grow {p:Prg} {s:S} (h:s.Sized p) (x:Slot) (l:BS):(s.grow x l).Sized p:=
 ⟨(h.set x _).ent,(h.set x _).fin,(h.set x _).cell,(h.set x _).row⟩
theorem S.get_grow {p:Prg} {s:S} (h:s.Sized p) {x:Slot} (hx:x.In p) (l:BS) (y:Slot):(s.grow x l).get y=if y=x then (true,(s.get x).2 ||| l) else s.get y:=
 (show (s.grow x l).get y=(s.set x (true,(s.get x).2 ||| l)).get y from by cases y <;> rfl).trans (S.get_set h hx _ y)
def acq (p:Prg) (i:Ins):Option Int:=
 if i.op=50∨i.op=53∨i.op=55 then some i.a
 else if i.op=51 then some i.b
 else if i.op=57 then some (p.obs.getD i.a.toNat default).other
 else none
def acqBit (p:Prg) (i:Ins):BS:=match acq p i with | some l=>bit l.toNat | none=>0
def allM (p:Prg):BS:=p.funs.foldl (fun s f=>f.code.foldl (fun s i=>s ||| acqBit p i) s) 0
def cleanM (p:Prg):BS:=p.funs.foldl (fun s f=>f.code.foldl (fun s i=>if f.clean then s ||| acqBit p i else s) s) 0
def startM (p:Prg):S:=⟨List.replicate p.funs.length (false,0),List.replicate p.funs.length (false,0),p.funs.map (fun f=>List.replicate f.code.length (false,0)),false⟩
def nextRaw (i:Ins) (k:Nat):List Nat:=if i.op=16∨i.op=21 then [] else if i.op=13 then [i.a.toNat] else if i.op=14 then [k+1,i.b.toNat] else if i.op=35 then [k+1,i.c.toNat] else [k+1]
def asc2 (l:List Nat):List Nat:=match l with
 | [x,y]=>if x=y then [x] else if x<y then [x,y] else [y,x]
 | l=>l
def nextM (p:Prg) (f k:Nat):List Nat:=asc2 ((nextRaw (p.ins f k) k).filter (fun n=>decide (n<p.len f)))
def S.enter (p:Prg) (s:S) (f:Nat) (l:BS):S:=
 let s1:=s.grow (.ent f) l
 if p.len f=0 then s1 else s1.grow (.at_ f 0) (s1.get (.ent f)).2
def S.behind (p:Prg) (s:S) (f k:Nat):BS × Bool:=
 let i:=p.ins f k
 if i.op=15 then ((s.get (.fin i.b.toNat)).2,(s.get (.fin i.b.toNat)).1)
 else if i.op=36 then ((s.get (.at_ f k)).2 ||| cleanM p,true)
 else if i.op=52∨i.op=54∨i.op=56 then ((s.get (.at_ f k)).2 &&& ~~~ bit i.a.toNat,true)
 else ((s.get (.at_ f k)).2 ||| acqBit p i,true)
def S.leaveStep (p:Prg) (f:Nat) (s:S) (k:Nat):S:=
 if (s.get (.at_ f k)).1 then
  let op:=(p.ins f k).op
  let s1:=if op=16 then s.grow (.fin f) (s.get (.at_ f k)).2 else s
  if k+1=p.len f∧op≠13∧op≠16∧op≠21∧(s1.behind p f k).2=true then s1.grow (.fin f) (s1.behind p f k).1 else s1
 else s
def S.leave (p:Prg) (s:S) (f:Nat):S:=
 (List.range (p.len f)).foldl (S.leaveStep p f) (if p.len f=0∧(s.get (.ent f)).1=true then s.grow (.fin f) (s.get (.ent f)).2 else s)
def fromM (p:Prg) (f:Nat) (stop:Int):Nat→List Nat→List Nat→List Nat
 | 0,_,_=>[]
 | _+1,_,[]=>[]
 | n+1,seen,k::l=>if p.len f≤k∨(k:Int)=stop∨k∈seen then fromM p f stop n seen l else k::fromM p f stop n (k::seen) (l++nextM p f k)
def fromL (p:Prg) (f start:Nat) (stop:Int):List Nat:=fromM p f stop (3 * p.len f+2) [] [start]
def insideM (p:Prg) (f k:Nat):List Nat:=
 let stop:=(p.ins f k).c
 if (fromL p f (k+1) stop).any (fun j=>decide ((p.ins f j).op=35∧(p.ins f j).c=stop)) then fromL p f (k+1) (-1) else fromL p f (k+1) stop
def S.visit (p:Prg) (s:S):Nat→List Nat × BS→Nat→List Nat × BS
 | 0,a,_=>a
 | n+1,a,f=>if f∈a.1 then a else
   (List.range (p.len f)).foldl (fun a k=>if (s.get (.at_ f k)).1 then
    (if (p.ins f k).op=15 then S.visit p s n (a.1,a.2 ||| (s.get (.at_ f k)).2) (p.ins f k).b.toNat else (a.1,a.2 ||| (s.get (.at_ f k)).2)) else a) (f::a.1,a.2)
def S.within (p:Prg) (s:S) (f:Nat):BS:=(s.visit p (p.funs.length+1) ([],0) f).2
def S.openStep (p:Prg) (f stop:Nat) (s:S) (j:Nat):S:=
 if (s.get (.at_ f j)).1 then
  let s1:=s.grow (.at_ f stop) (s.get (.at_ f j)).2
  if (p.ins f j).op=15 then s1.grow (.at_ f stop) (s1.within p (p.ins f j).b.toNat) else s1
 else s
def S.open_ (p:Prg) (s:S) (f k:Nat):S:=
 (insideM p f k).foldl (S.openStep p f (p.ins f k).c.toNat) (s.grow (.at_ f (p.ins f k).c.toNat) (cleanM p))
def S.instruction (p:Prg) (s:S) (f k:Nat):S:=
 let i:=p.ins f k
 let s1:=if i.op=34 then s.enter p i.b.toNat 0 else if i.op=15 then s.enter p i.b.toNat (s.get (.at_ f k)).2 else if i.op=17 then s.enter p i.b.toNat (allM p) else if i.op=35 then s.open_ p f k else s
 if (s1.behind p f k).2 then (nextM p f k).foldl (fun s j=>s.grow (.at_ f j) (s1.behind p f k).1) s1 else s1
def S.roundF (p:Prg) (s:S) (f:Nat):S:=
 ((List.range (p.len f)).foldl (fun s k=>if (s.get (.at_ f k)).1 then s.instruction p f k else s) s).leave p f
def S.round (p:Prg) (s:S):S:=(List.range p.funs.length).foldl (S.roundF p) { s with ch:=false }
def S.iter (p:Prg):Nat→S→S
 | 0,s=>s
 | n+1,s=>if s.ch then S.iter p n (s.round p) else s
def Prg.rounds (p:Prg):Nat:=33 * (2 * p.funs.length+(p.funs.map (fun f=>f.code.length)).sum)+2
def listM (s:BS):List Nat:=(List.range 16).filter (fun i=>s.getLsbD i)
def toStep (p:Prg) (s:S) (f:Nat) (t:List BS) (k:Nat):List BS:=
 let i:=p.ins f k
 match acq p i with
 | none=>t
 | some l=>if i.op=51∨(s.get (.at_ f k)).1=false then t else
   (listM (s.get (.at_ f k)).2).foldl (fun (t:List BS) (h:Nat)=>if (h:Int)≠l∨i.op≠57 then t.set h (t.getD h 0 ||| bit l.toNat) else t) t
def toM (p:Prg) (s:S):List BS:=
 (List.range p.funs.length).foldl (fun t f=>(List.range (p.len f)).foldl (toStep p s f) t) (List.replicate p.obs.length 0)
def edgesOf (t:List BS):List (Nat × Nat):=(List.range t.length).flatMap (fun h=>(listM (t.getD h 0)).map (fun l=>(h,l)))
end
section
open Go.RowKit
theorem or_sv (x y:BS):bits .or .u32 (x.toNat:Int) (y.toNat:Int)=((x ||| y).toNat:Int):=by
 have h:IntKind.u32.wrap (((BitVec.ofInt 32 (x.toNat:Int) ||| BitVec.ofInt 32 (y.toNat:Int):BitVec 32).toNat:Nat):Int)=((x ||| y).toNat:Int):=by
  rw [BitVec.ofInt_natCast,BitVec.ofInt_natCast,BitVec.ofNat_toNat,BitVec.ofNat_toNat,BitVec.setWidth_eq,BitVec.setWidth_eq];have:=(x ||| y).isLt;show ((((x ||| y).toNat:Int)) % 4294967296:Int)=_;omega
 exact h
theorem ne_sv (x y:BS):((x.toNat:Int) != (y.toNat:Int))=(x != y):=by
 rw [Bool.eq_iff_iff];simp only [bne_iff_ne,ne_eq,Int.natCast_inj,BitVec.toNat_inj]
def Grew (A bx ox by_ oy:Nat) (kn:Bool) (t l:BS) (w W:World):Prop:=
 ∃ q,W=((if !kn || (t ||| l) != t then (w.drewN q).setCell ⟨A,11,none⟩ (.bool true) else w.drewN q).setCell ⟨bx,ox,none⟩ (.bool true)).setCell ⟨by_,oy,none⟩ (sv (t ||| l))
theorem grow_cells (w:World) (A bx ox by_ oy:Nat) (kn ch:Bool) (t l:BS) (hx:w.cell? ⟨bx,ox,none⟩=some (.bool kn)) (hxf:w.frozen? ⟨bx,ox,none⟩=false) (hy:w.cell? ⟨by_,oy,none⟩=some (sv t)) (hyf:w.frozen? ⟨by_,oy,none⟩=false)
  (hA:w.cell? ⟨A,11,none⟩=some (.bool ch)) (hAf:w.frozen? ⟨A,11,none⟩=false) (h1:A≠bx) (h2:A≠by_) (h3:bx≠by_) :
  Calls Tryz.prog 84 #[.pointer (some ⟨A,0,none⟩),.pointer (some ⟨bx,ox,none⟩),.pointer (some ⟨by_,oy,none⟩),sv l] w fun e W=>e=.returned (.tuple #[])∧Grew A bx ox by_ oy kn t l w W:=by
 unfold sv at *;go_enter Tryz.func84,Tryz.ntmps84
 cases kn with
 | false=>
  go_wp2_with fail;go_quiet (fail);go_wp2_with fail;go_end0;refine ⟨rfl,nq,?_⟩;rw [or_sv];rfl
 | true=>
  obtain ⟨c,hc⟩:∃ c,((t ||| l) != t)=c:=⟨_,rfl⟩
  have hc2:(bits .or .u32 (t.toNat:Int) (l.toNat:Int) != (t.toNat:Int))=c:=by rw [or_sv,ne_sv]; exact hc
  have HC:=hid hc;clear hc;go_wp2_with fail;go_quiet (fail)
  cases c with
  | true=>
   go_wp2_with fail;go_end0;refine ⟨rfl,nq,?_⟩;rw [or_sv,HC.out];rfl
  | false=>
   go_wp2_with fail;go_end0;refine ⟨rfl,nq,?_⟩;rw [or_sv,HC.out];rfl
end
section
open Go.RowKit
structure Lay where
 lo:Nat
 hi:Nat
 A:Nat
 E:Nat
 W:Nat
 N:Nat
 F:Nat
 R:Nat
 B:Nat
 cR:Nat
 cB:Nat
 rb:Nat→Nat
 bb:Nat→Nat
def Lay.kA (L:Lay):Slot→Addr
 | .ent f=>⟨L.E,f,none⟩
 | .fin f=>⟨L.N,f,none⟩
 | .at_ f k=>⟨L.rb f,k,none⟩
def Lay.tA (L:Lay):Slot→Addr
 | .ent f=>⟨L.W,f,none⟩
 | .fin f=>⟨L.F,f,none⟩
 | .at_ f k=>⟨L.bb f,k,none⟩
structure Lay.Ok (p:Prg) (L:Lay):Prop where
 tag:∃ t:Nat→Nat × Nat,t L.A=(0,0)∧t L.E=(1,0)∧t L.W=(2,0)∧t L.N=(3,0)∧t L.F=(4,0)∧t L.R=(5,0)∧t L.B=(6,0)∧(∀ f,f<p.funs.length→t (L.rb f)=(7,f))∧(∀ f,f<p.funs.length→t (L.bb f)=(8,f))
 rng:∀ b∈[L.A,L.E,L.W,L.N,L.F,L.R,L.B],L.lo≤b∧b<L.hi
 rngR:∀ f,f<p.funs.length→(L.lo≤L.rb f∧L.rb f<L.hi)∧L.lo≤L.bb f∧L.bb f<L.hi
section
variable {p:Prg} {L:Lay} (h:L.Ok p)
include h
theorem Lay.Ok.kt {x y:Slot} (hx:x.In p) (hy:y.In p):(L.kA x).block≠(L.tA y).block:=by
 obtain ⟨t,t0,t1,t2,t3,t4,t5,t6,t7,t8⟩:=h.tag;intro e;have e:=congrArg t e
 cases x with
 | ent f=>cases y with
  | ent g=>simp only [Lay.kA,Lay.tA,t1,t2] at e; cases e
  | fin g=>simp only [Lay.kA,Lay.tA,t1,t4] at e; cases e
  | at_ g k=>simp only [Lay.kA,Lay.tA,t1,t8 _ hy.1] at e; cases e
 | fin f=>cases y with
  | ent g=>simp only [Lay.kA,Lay.tA,t3,t2] at e; cases e
  | fin g=>simp only [Lay.kA,Lay.tA,t3,t4] at e; cases e
  | at_ g k=>simp only [Lay.kA,Lay.tA,t3,t8 _ hy.1] at e; cases e
 | at_ f j=>cases y with
  | ent g=>simp only [Lay.kA,Lay.tA,t7 _ hx.1,t2] at e; cases e
  | fin g=>simp only [Lay.kA,Lay.tA,t7 _ hx.1,t4] at e; cases e
  | at_ g k=>simp only [Lay.kA,Lay.tA,t7 _ hx.1,t8 _ hy.1] at e; cases e
theorem Lay.Ok.kk {x y:Slot} (hx:x.In p) (hy:y.In p) (e0:L.kA x=L.kA y):x=y:=by
 obtain ⟨t,t0,t1,t2,t3,t4,t5,t6,t7,t8⟩:=h.tag;have e:=congrArg (fun a:Addr=>(t a.block,a.off)) e0
 cases x with
 | ent f=>cases y with
  | ent g=>simp only [Lay.kA,t1] at e; cases e; rfl
  | fin g=>simp only [Lay.kA,t1,t3] at e; cases e
  | at_ g k=>simp only [Lay.kA,t1,t7 _ hy.1] at e; cases e
 | fin f=>cases y with
  | ent g=>simp only [Lay.kA,t3,t1] at e; cases e
  | fin g=>simp only [Lay.kA,t3] at e; cases e; rfl
  | at_ g k=>simp only [Lay.kA,t3,t7 _ hy.1] at e; cases e
 | at_ f j=>cases y with
  | ent g=>simp only [Lay.kA,t7 _ hx.1,t1] at e; cases e
  | fin g=>simp only [Lay.kA,t7 _ hx.1,t3] at e; cases e
  | at_ g k=>simp only [Lay.kA,t7 _ hx.1,t7 _ hy.1] at e; cases e; rfl
theorem Lay.Ok.tt {x y:Slot} (hx:x.In p) (hy:y.In p) (e0:L.tA x=L.tA y):x=y:=by
 obtain ⟨t,t0,t1,t2,t3,t4,t5,t6,t7,t8⟩:=h.tag;have e:=congrArg (fun a:Addr=>(t a.block,a.off)) e0
 cases x with
 | ent f=>cases y with
  | ent g=>simp only [Lay.tA,t2] at e; cases e; rfl
  | fin g=>simp only [Lay.tA,t2,t4] at e; cases e
  | at_ g k=>simp only [Lay.tA,t2,t8 _ hy.1] at e; cases e
 | fin f=>cases y with
  | ent g=>simp only [Lay.tA,t4,t2] at e; cases e
  | fin g=>simp only [Lay.tA,t4] at e; cases e; rfl
  | at_ g k=>simp only [Lay.tA,t4,t8 _ hy.1] at e; cases e
 | at_ f j=>cases y with
  | ent g=>simp only [Lay.tA,t8 _ hx.1,t2] at e; cases e
  | fin g=>simp only [Lay.tA,t8 _ hx.1,t4] at e; cases e
  | at_ g k=>simp only [Lay.tA,t8 _ hx.1,t8 _ hy.1] at e; cases e; rfl
theorem Lay.Ok.head {x:Slot} (hx:x.In p) {b:Nat} (hb:b=L.A∨b=L.R∨b=L.B):b≠(L.kA x).block∧b≠(L.tA x).block:=by
 obtain ⟨t,t0,t1,t2,t3,t4,t5,t6,t7,t8⟩:=h.tag;constructor
 ·intro e
  have e:=congrArg t e
  cases x with
  | ent f=>rcases hb with rfl | rfl | rfl <;> simp only [Lay.kA,t0,t1,t5,t6] at e <;> cases e
  | fin f=>rcases hb with rfl | rfl | rfl <;> simp only [Lay.kA,t0,t3,t5,t6] at e <;> cases e
  | at_ f k=>rcases hb with rfl | rfl | rfl <;> simp only [Lay.kA,t0,t7 _ hx.1,t5,t6] at e <;> cases e
 ·intro e
  have e:=congrArg t e
  cases x with
  | ent f=>rcases hb with rfl | rfl | rfl <;> simp only [Lay.tA,t0,t2,t5,t6] at e <;> cases e
  | fin f=>rcases hb with rfl | rfl | rfl <;> simp only [Lay.tA,t0,t4,t5,t6] at e <;> cases e
  | at_ f k=>rcases hb with rfl | rfl | rfl <;> simp only [Lay.tA,t0,t8 _ hx.1,t5,t6] at e <;> cases e
theorem Lay.Ok.hdA:L.R≠L.A∧L.B≠L.A:=by
 obtain ⟨t,t0,t1,t2,t3,t4,t5,t6,t7,t8⟩:=h.tag;constructor
 ·intro e; have e:=congrArg t e; rw [t5,t0] at e; cases e
 ·intro e; have e:=congrArg t e; rw [t6,t0] at e; cases e
theorem Lay.Ok.kIn {x:Slot} (hx:x.In p):L.lo≤(L.kA x).block∧(L.kA x).block<L.hi:=by
 cases x with
 | ent f=>exact h.rng L.E (by simp)
 | fin f=>exact h.rng L.N (by simp)
 | at_ f k=>exact (h.rngR f hx.1).1
theorem Lay.Ok.tIn {x:Slot} (hx:x.In p):L.lo≤(L.tA x).block∧(L.tA x).block<L.hi:=by
 cases x with
 | ent f=>exact h.rng L.W (by simp)
 | fin f=>exact h.rng L.F (by simp)
 | at_ f k=>exact (h.rngR f hx.1).2
end
structure Turn (lo hi:Nat) (w W:World):Prop where
 os:W.os=w.os
 tape:W.tape=w.tape
 output:W.output=w.output
 size:w.heap.size≤W.heap.size
 block:∀ k,k<w.heap.size→(k<lo∨hi≤k)→W.heap[k]? = w.heap[k]?
theorem Turn.refl (lo hi:Nat) (w:World):Turn lo hi w w:=⟨rfl,rfl,rfl,Nat.le_refl _,fun _ _ _=>rfl⟩
theorem Turn.trans {lo hi:Nat} {a b c:World} (h1:Turn lo hi a b) (h2:Turn lo hi b c):Turn lo hi a c:=
 ⟨h2.os.trans h1.os,h2.tape.trans h1.tape,h2.output.trans h1.output,Nat.le_trans h1.size h2.size,fun k hk hr=>(h2.block k (Nat.lt_of_lt_of_le hk h1.size) hr).trans (h1.block k hk hr)⟩
theorem Turn.of_below {lo hi:Nat} {w W:World} (h:Below w.heap.size w W):Turn lo hi w W:=
 ⟨h.os,h.tape,h.output,h.size,fun k hk _=>h.block k hk⟩
theorem Turn.setCell {lo hi:Nat} {w W:World} (h:Turn lo hi w W) {a:Addr} (ha:lo≤a.block∧a.block<hi) (v:Value):Turn lo hi w (W.setCell a v):=
 ⟨h.os,h.tape,h.output,by simpa using h.size,fun k hk hr=>(heap_setCell_other _ _ _ _ (by omega)).trans (h.block k hk hr)⟩
theorem Turn.drewN {lo hi:Nat} {w W:World} (h:Turn lo hi w W) (n:Nat):Turn lo hi w (W.drewN n):=⟨h.os,h.tape,h.output,h.size,h.block⟩
theorem Turn.below {lo hi:Nat} {w W:World} (h:Turn lo hi w W) (hl:lo≤w.heap.size):Below lo w W:=
 ⟨h.os,h.tape,h.output,h.size,fun k hk=>h.block k (by omega) (.inl hk)⟩
theorem Turn.cell {lo hi:Nat} {w W:World} (h:Turn lo hi w W) {a:Addr} {v:Value} (hc:w.cell? a=some v) (ha:a.block<lo∨hi≤a.block):W.cell? a=some v:=by
 have:=h.block a.block (block_lt_of_cell hc) ha;simp only [World.cell?,this];exact hc
def hdCells (p:Prg) (L:Lay) (ch:Bool):Array Value:=
 #[.slice p.funA p.funs.length p.funC,.slice p.obA p.obs.length p.obC,.slice p.vrA p.vrs.length p.vrC,sv (allM p),sv (cleanM p),.slice (some ⟨L.E,0,none⟩) p.funs.length p.funs.length,.slice (some ⟨L.W,0,none⟩) p.funs.length p.funs.length,.slice (some ⟨L.N,0,none⟩) p.funs.length p.funs.length,.slice (some ⟨L.F,0,none⟩) p.funs.length p.funs.length,.slice (some ⟨L.R,0,none⟩) p.funs.length L.cR,.slice (some ⟨L.B,0,none⟩) p.funs.length L.cB,.bool ch]
structure Mem (p:Prg) (L:Lay) (w:World) (s:S):Prop where
 ok:L.Ok p
 prog:Lies w L.lo p
 hdr:w.heap[L.A]? = some (.cells (hdCells p L s.ch) 88 (0,0))
 outR:∀ f,f<p.funs.length→w.cell? ⟨L.R,f,none⟩=some (.slice (some ⟨L.rb f,0,none⟩) (p.len f) (p.len f))
 outB:∀ f,f<p.funs.length→w.cell? ⟨L.B,f,none⟩=some (.slice (some ⟨L.bb f,0,none⟩) (p.len f) (p.len f))
 slot:∀ x:Slot,x.In p→(w.cell? (L.kA x)=some (.bool (s.get x).1)∧w.frozen? (L.kA x)=false)∧w.cell? (L.tA x)=some (sv (s.get x).2)∧w.frozen? (L.tA x)=false
 sized:s.Sized p
 hi:L.lo≤L.hi∧L.hi≤w.heap.size
theorem frozen_block {w W:World} {a:Addr} (h:W.heap[a.block]? = w.heap[a.block]?):W.frozen? a=w.frozen? a:=by simp only [World.frozen?,h]
theorem Mem.below {p:Prg} {L:Lay} {w W:World} {s:S} (h:Mem p L w s) (hb:Below w.heap.size w W):Mem p L W s:=by
 have hk:∀ a:Addr,a.block<L.hi→W.heap[a.block]? = w.heap[a.block]?:=fun a ha=>hb.block _ (by have:=h.hi.2; omega)
 have hc:∀ a:Addr,a.block<L.hi→W.cell? a=w.cell? a:=fun a ha=>hb.cell (by have:=h.hi.2; omega)
 refine ⟨h.ok,h.prog.below (hb.mono (by have:=h.hi; omega)),(hb.block _ ?_).trans h.hdr,fun f hf=>(hc _ ?_).trans (h.outR f hf),fun f hf=>(hc _ ?_).trans (h.outB f hf),fun x hx=>⟨⟨?_,?_⟩,?_,?_⟩,h.sized,h.hi.1,Nat.le_trans h.hi.2 hb.size⟩
 ·have:=(h.ok.rng L.A (by simp)).2; have:=h.hi.2; omega
 ·exact (h.ok.rng L.R (by simp)).2
 ·exact (h.ok.rng L.B (by simp)).2
 ·exact (hc _ (h.ok.kIn hx).2).trans (h.slot x hx).1.1
 ·exact (frozen_block (hk _ (h.ok.kIn hx).2)).trans (h.slot x hx).1.2
 ·exact (hc _ (h.ok.tIn hx).2).trans (h.slot x hx).2.1
 ·exact (frozen_block (hk _ (h.ok.tIn hx).2)).trans (h.slot x hx).2.2
theorem Mem.below' {p:Prg} {L:Lay} {w W:World} {s:S} (h:Mem p L w s) (hb:Below L.hi w W):Mem p L W s:=by
 have hk:∀ a:Addr,a.block<L.hi→W.heap[a.block]? = w.heap[a.block]?:=fun a ha=>hb.block _ ha
 have hc:∀ a:Addr,a.block<L.hi→W.cell? a=w.cell? a:=fun a ha=>hb.cell ha
 refine ⟨h.ok,h.prog.below (hb.mono h.hi.1),(hb.block _ (h.ok.rng L.A (by simp)).2).trans h.hdr,fun f hf=>(hc _ (h.ok.rng L.R (by simp)).2).trans (h.outR f hf),fun f hf=>(hc _ (h.ok.rng L.B (by simp)).2).trans (h.outB f hf),fun x hx=>⟨⟨(hc _ (h.ok.kIn hx).2).trans (h.slot x hx).1.1,(frozen_block (hk _ (h.ok.kIn hx).2)).trans (h.slot x hx).1.2⟩,(hc _ (h.ok.tIn hx).2).trans (h.slot x hx).2.1,(frozen_block (hk _ (h.ok.tIn hx).2)).trans (h.slot x hx).2.2⟩,h.sized,h.hi.1,Nat.le_trans h.hi.2 hb.size⟩
theorem Mem.drewN {p:Prg} {L:Lay} {w:World} {s:S} (h:Mem p L w s) (n:Nat):Mem p L (w.drewN n) s:=h.below (below_drews _ _ _)
theorem Mem.flag {p:Prg} {L:Lay} {w:World} {s:S} (h:Mem p L w s) (c:Bool):Mem p L (w.setCell ⟨L.A,11,none⟩ (.bool c)) { s with ch:=c }:=by
 have hA:=h.ok.rng L.A (by simp);refine ⟨h.ok,h.prog.below ((Below.refl _ _).setCell (p:=⟨L.A,11,none⟩) hA.1 _),?_,fun f hf=>?_,fun f hf=>?_,fun x hx=>?_,⟨h.sized.ent,h.sized.fin,h.sized.cell,h.sized.row⟩,h.hi.1,by simpa using h.hi.2⟩
 ·rw [heap_setCell_same w L.A 11 _ _ _ h.hdr]
  rfl
 ·rw [World.cell?_setCell_far _ _ _ _ (fun e=>h.ok.hdA.1 e.symm)]; exact h.outR f hf
 ·rw [World.cell?_setCell_far _ _ _ _ (fun e=>h.ok.hdA.2 e.symm)]; exact h.outB f hf
 ·have hne:=h.ok.head hx (b:=L.A) (.inl rfl)
  refine ⟨⟨?_,?_⟩,?_,?_⟩
  ·rw [World.cell?_setCell_far _ _ _ _ hne.1]; exact (h.slot x hx).1.1
  ·rw [World.frozen?_setCell]; exact (h.slot x hx).1.2
  ·rw [World.cell?_setCell_far _ _ _ _ hne.2]; exact (h.slot x hx).2.1
  ·rw [World.frozen?_setCell]; exact (h.slot x hx).2.2
theorem Mem.place {p:Prg} {L:Lay} {w:World} {s:S} (h:Mem p L w s) {x:Slot} (hx:x.In p) (k:Bool) (t:BS):Mem p L ((w.setCell (L.kA x) (.bool k)).setCell (L.tA x) (sv t)) (s.set x (k,t)):=by
 have hk:=h.ok.kIn hx;have ht:=h.ok.tIn hx;have hA:=h.ok.head hx (b:=L.A) (.inl rfl);have hR:=h.ok.head hx (b:=L.R) (.inr (.inl rfl));have hB:=h.ok.head hx (b:=L.B) (.inr (.inr rfl));have hch:(s.set x (k,t)).ch=s.ch:=by cases x <;> rfl
 refine ⟨h.ok,h.prog.below (((Below.refl _ _).setCell hk.1 _).setCell ht.1 _),?_,fun f hf=>?_,fun f hf=>?_,fun y hy=>?_,h.sized.set x _,h.hi.1,by simpa using h.hi.2⟩
 ·rw [heap_setCell_other _ _ _ _ hA.2,heap_setCell_other _ _ _ _ hA.1,hch]; exact h.hdr
 ·rw [World.cell?_setCell_far _ _ _ _ (fun e=>hR.2 e.symm),World.cell?_setCell_far _ _ _ _ (fun e=>hR.1 e.symm)]; exact h.outR f hf
 ·rw [World.cell?_setCell_far _ _ _ _ (fun e=>hB.2 e.symm),World.cell?_setCell_far _ _ _ _ (fun e=>hB.1 e.symm)]; exact h.outB f hf
 ·rw [S.get_set h.sized hx]
  obtain ⟨⟨y1,y2⟩,y3,y4⟩:=h.slot y hy;obtain ⟨⟨x1,x2⟩,x3,x4⟩:=h.slot x hx;have kt:=h.ok.kt hx hy;have kt2:=h.ok.kt hy hx;refine ⟨⟨?_,?_⟩,?_,?_⟩
  ·rw [World.cell?_setCell_far _ _ _ _ (fun e=>kt2 e.symm)]
   by_cases e:y=x
   ·subst e; rw [if_pos rfl,World.cell?_setCell_same _ _ _ y1]
   ·rw [if_neg e,World.cell?_setCell_other _ _ _ _ (fun z=>e (h.ok.kk hx hy z).symm)]; exact y1
  ·rw [World.frozen?_setCell,World.frozen?_setCell]; exact y2
  ·by_cases e:y=x
   ·subst e
    rw [if_pos rfl,World.cell?_setCell_same _ _ _ (u:=sv (s.get y).2)];rw [World.cell?_setCell_far _ _ _ _ kt]; exact y3
   ·rw [if_neg e,World.cell?_setCell_other _ _ _ _ (fun z=>e (h.ok.tt hx hy z).symm),World.cell?_setCell_far _ _ _ _ kt]; exact y3
  ·rw [World.frozen?_setCell,World.frozen?_setCell]; exact y4
def Left (p:Prg) (L:Lay) (w:World) (s:S) (v:Value):Ending→World→Prop:=fun e W=>e=.returned v∧Mem p L W s∧Turn L.lo L.hi w W
theorem Mem.hd {p:Prg} {L:Lay} {w:World} {s:S} (h:Mem p L w s) {j:Nat} {v:Value} (hv:(hdCells p L s.ch)[j]? = some v):w.cell? ⟨L.A,j,none⟩=some v:=by
 have:=h.hdr;simp only [World.cell?,this];simpa using hv
theorem Mem.c0 {p:Prg} {L:Lay} {w:World} {s:S} (h:Mem p L w s):w.cell? ⟨L.A,0,none⟩=some (.slice p.funA p.funs.length p.funC):=h.hd rfl
theorem Mem.c1 {p:Prg} {L:Lay} {w:World} {s:S} (h:Mem p L w s):w.cell? ⟨L.A,1,none⟩=some (.slice p.obA p.obs.length p.obC):=h.hd rfl
theorem Mem.c2 {p:Prg} {L:Lay} {w:World} {s:S} (h:Mem p L w s):w.cell? ⟨L.A,2,none⟩=some (.slice p.vrA p.vrs.length p.vrC):=h.hd rfl
theorem Mem.c3 {p:Prg} {L:Lay} {w:World} {s:S} (h:Mem p L w s):w.cell? ⟨L.A,3,none⟩=some (sv (allM p)):=h.hd rfl
theorem Mem.c4 {p:Prg} {L:Lay} {w:World} {s:S} (h:Mem p L w s):w.cell? ⟨L.A,4,none⟩=some (sv (cleanM p)):=h.hd rfl
theorem Mem.c5 {p:Prg} {L:Lay} {w:World} {s:S} (h:Mem p L w s):w.cell? ⟨L.A,5,none⟩=some (.slice (some ⟨L.E,0,none⟩) p.funs.length p.funs.length):=h.hd rfl
theorem Mem.c6 {p:Prg} {L:Lay} {w:World} {s:S} (h:Mem p L w s):w.cell? ⟨L.A,6,none⟩=some (.slice (some ⟨L.W,0,none⟩) p.funs.length p.funs.length):=h.hd rfl
theorem Mem.c7 {p:Prg} {L:Lay} {w:World} {s:S} (h:Mem p L w s):w.cell? ⟨L.A,7,none⟩=some (.slice (some ⟨L.N,0,none⟩) p.funs.length p.funs.length):=h.hd rfl
theorem Mem.c8 {p:Prg} {L:Lay} {w:World} {s:S} (h:Mem p L w s):w.cell? ⟨L.A,8,none⟩=some (.slice (some ⟨L.F,0,none⟩) p.funs.length p.funs.length):=h.hd rfl
theorem Mem.c9 {p:Prg} {L:Lay} {w:World} {s:S} (h:Mem p L w s):w.cell? ⟨L.A,9,none⟩=some (.slice (some ⟨L.R,0,none⟩) p.funs.length L.cR):=h.hd rfl
theorem Mem.c10 {p:Prg} {L:Lay} {w:World} {s:S} (h:Mem p L w s):w.cell? ⟨L.A,10,none⟩=some (.slice (some ⟨L.B,0,none⟩) p.funs.length L.cB):=h.hd rfl
theorem Mem.c11 {p:Prg} {L:Lay} {w:World} {s:S} (h:Mem p L w s):w.cell? ⟨L.A,11,none⟩=some (.bool s.ch):=h.hd rfl
theorem Mem.hdF {p:Prg} {L:Lay} {w:World} {s:S} (h:Mem p L w s) (j:Nat):w.frozen? ⟨L.A,j,none⟩=false:=by
 have:=h.hdr;simp [World.frozen?,this]
theorem Mem.grow {p:Prg} {L:Lay} {w W:World} {s:S} (h:Mem p L w s) {x:Slot} (hx:x.In p) {l:BS} (hg:Grew L.A (L.kA x).block (L.kA x).off (L.tA x).block (L.tA x).off (s.get x).1 (s.get x).2 l w W):Mem p L W (s.grow x l)∧Turn L.lo L.hi w W:=by
 obtain ⟨q,rfl⟩:=hg;have hk:=h.ok.kIn hx;have ht:=h.ok.tIn hx;have hA:=h.ok.rng L.A (by simp);have ek:(⟨(L.kA x).block,(L.kA x).off,none⟩:Addr)=L.kA x:=by cases x <;> rfl
 have et:(⟨(L.tA x).block,(L.tA x).off,none⟩:Addr)=L.tA x:=by cases x <;> rfl
 rw [ek,et]
 cases hc:(!(s.get x).1 || ((s.get x).2 ||| l) != (s.get x).2) with
 | true=>
  rw [if_pos rfl];refine ⟨?_,(((Turn.refl _ _ _).drewN q).setCell hA _ |>.setCell hk _).setCell ht _⟩;have h1:=((h.drewN q).flag true).place hx true ((s.get x).2 ||| l)
  have e:s.grow x l=({ s with ch:=true }:S).set x (true,(s.get x).2 ||| l):=by
   unfold S.grow;rw [Bool.or_assoc,hc,Bool.or_true];cases x <;> rfl
  rw [e]; exact h1
 | false=>
  rw [if_neg (by decide)];refine ⟨?_,(((Turn.refl _ _ _).drewN q).setCell hk _).setCell ht _⟩;have h1:=(h.drewN q).place hx true ((s.get x).2 ||| l)
  have e:s.grow x l=s.set x (true,(s.get x).2 ||| l):=by
   unfold S.grow;rw [Bool.or_assoc,hc,Bool.or_false];cases x <;> rfl
  rw [e]; exact h1
theorem grow_any (p:Prg) (L:Lay) (w:World) (s:S) (h:Mem p L w s) (x:Slot) (hx:x.In p) (l:BS) :
  Calls Tryz.prog 84 #[.pointer (some ⟨L.A,0,none⟩),.pointer (some (L.kA x)),.pointer (some (L.tA x)),sv l] w (Left p L w (s.grow x l) (.tuple #[])):=by
 obtain ⟨⟨x1,x2⟩,x3,x4⟩:=h.slot x hx;have ek:L.kA x=⟨(L.kA x).block,(L.kA x).off,none⟩:=by cases x <;> rfl
 have et:L.tA x=⟨(L.tA x).block,(L.tA x).off,none⟩:=by cases x <;> rfl
 have hh:=h.ok.head hx (b:=L.A) (.inl rfl);have hg:=grow_cells w L.A (L.kA x).block (L.kA x).off (L.tA x).block (L.tA x).off (s.get x).1 s.ch (s.get x).2 l (by rw [← ek]; exact x1) (by rw [← ek]; exact x2) (by rw [← et]; exact x3) (by rw [← et]; exact x4) (h.hd rfl) (h.hdF 11) hh.1 hh.2 (h.ok.kt hx hx);rw [← ek,← et] at hg;refine hg.mono ?_;rintro e W ⟨rfl,hgr⟩;exact ⟨rfl,h.grow hx hgr⟩
end
section
open Go.RowKit
theorem reach_any (p:Prg) (L:Lay) (w:World) (s:S) (h:Mem p L w s) (f k:Nat) (hx:(Slot.at_ f k).In p) (l:BS) :
  Calls Tryz.prog 85 #[.pointer (some ⟨L.A,0,none⟩),.int .i64 f,.int .i64 k,sv l] w (Left p L w (s.grow (.at_ f k) l) (.tuple #[])):=by
 have HG:=hid (fun (W:World) (hb:Below w.heap.size w W)=>grow_any p L W s (h.below hb) (.at_ f k) hx l);have c9:=h.c9;have c10:=h.c10;have cR:=h.outR f hx.1;have cB:=h.outB f hx.1;have f0:=zi f;have f1:(f:Int)<(p.funs.length:Int):=by have:=hx.1; omega
 have k0:=zi k;have k1:(k:Int)<(p.len f:Int):=by have:=hx.2; omega
 clear h hx;unfold sv at HG ⊢;generalize p.len f=M at *;generalize p.funs.length=N at *;go_enter Tryz.func85,Tryz.ntmps85;go_wp2_with fail;go_still_tail 20,(by kernel_rfl)
 change wpList _ _ _ _ _ w.drew;have hb:=below_drews w.heap.size w 1;change Below w.heap.size w w.drew at hb;generalize w.drew=W1 at hb ⊢;go_wp2_with fail;refine (HG.out _ hb).mono ?_;rintro e W2 ⟨rfl,hm,ht⟩;go_wp2_with fail;go_end0;exact ⟨rfl,hm,(Turn.of_below hb).trans ht⟩
theorem enter_any (p:Prg) (L:Lay) (w:World) (s:S) (h:Mem p L w s) (f:Nat) (hf:f<p.funs.length) (l:BS) :
  Calls Tryz.prog 67 #[.pointer (some ⟨L.A,0,none⟩),.int .i64 f,sv l] w (Left p L w (s.enter p f l) (.tuple #[])):=by
 have HG:=hid (fun (W:World) (hb:Below w.heap.size w W)=>grow_any p L W s (h.below hb) (.ent f) hf l)
 have HR:Hid (∀ (W:World) (_:Mem p L W (s.grow (.ent f) l)) (_:0<p.len f) (l2:BS),Calls Tryz.prog 85 #[.pointer (some ⟨L.A,0,none⟩),.int .i64 f,.int .i64 0,.int .u32 (l2.toNat:Int)] W (Left p L W ((s.grow (.ent f) l).grow (.at_ f 0) l2) (.tuple #[]))):=
  hid (fun W hm h0 l2=>reach_any p L W _ hm f 0 ⟨hf,h0⟩ l2)
 have c5:=h.c5;have c6:=h.c6;have f0:=zi f;have f1:(f:Int)<(p.funs.length:Int):=by omega
 clear h;unfold sv at HG ⊢;go_enter Tryz.func67,Tryz.ntmps67;go_wp2_with fail;go_still_tail 14,(by kernel_rfl)
 change wpList _ _ _ _ _ w.drew;have hb:=below_drews w.heap.size w 1;change Below w.heap.size w w.drew at hb;generalize w.drew=W1 at hb ⊢;go_wp2_with fail;refine (HG.out _ hb).mono ?_;rintro e W2 ⟨rfl,hm,ht⟩;have ht2:=(Turn.of_below (lo:=L.lo) (hi:=L.hi) hb).trans ht;have d0:=hm.c0;have d6:=hm.c6;obtain ⟨b,off,hA,hbl,-,-,-,-,-,e5⟩:=hm.prog.fn hf;have hs:=(hm.slot (.ent f) hf).2.1;have HM2:=hid hm;rw [hA] at d0;have hcn:p.funs[f].code.length=p.len f:=by simp [Prg.len,Prg.fn,hf]
 rw [hcn] at e5;unfold sv at hs;unfold Lay.tA at hs;clear hm ht c5 c6 hA;by_cases h0:p.len f=0
 ·have g1:=Df (show ¬ (0<p.len f) by omega)
  have g2:=Df (show ¬ (0:Int)<p.len f by omega);have H0:=hid h0;clear h0;go_wp2_with fail;go_end0;refine ⟨rfl,?_,ht2⟩;unfold S.enter;rw [if_pos H0.out];exact HM2.out
 ·have g1:=Dt (show 0<p.len f by omega)
  have g2:=Dt (show (0:Int)<p.len f by omega);have H0:=hid h0;clear h0;go_wp2_with fail;refine (HR.out _ HM2.out (by have:=H0.out; omega) _).mono ?_;rintro e W3 ⟨rfl,hm,ht⟩;go_wp2_with fail;go_end0;refine ⟨rfl,?_,ht2.trans ht⟩;unfold S.enter;rw [if_neg H0.out];exact hm
end
section
open Go.RowKit Go.Shelf
theorem check_any (p:Prg) (hfit:Fits p) (w:World) (h:Lies w w.heap.size p):Calls Tryz.prog 65 #[p.val] w (RetE (prgOk p) w):=by
 have hn1:=h.funN;have hn2:=h.obN;have hn3:=h.vrN;unfold maxLen at hn1 hn2 hn3;obtain ⟨V,hV⟩:∃ V,V=prgOk p:=⟨_,rfl⟩
 rw [← hV];have HV:Hid (V↔(p.funs.length≠0∧p.funs.length≤32∧p.obs.length≤16∧p.vrs.length≤16)∧(∀ (k:Nat) (hk:k<p.obs.length),obOk p k p.obs[k])∧(∀ (k:Nat) (hk:k<p.vrs.length),vrOk p k p.vrs[k])∧∀ (k:Nat) (hk:k<p.funs.length),fnOk p k p.funs[k]):=hid (iff_of_eq hV);clear hV;have hT:=one_new w #[.slice p.funA p.funs.length p.funC,.slice p.obA p.obs.length p.obC,.slice p.vrA p.vrs.length p.vrC] 26;have hc1:=fun k hk W hb=>chkOb_any p k hk W (h.next hb)
 have hc2:=fun k hk W hb=>chkVr_any p k hk W (h.next hb)
 have hc3:=fun k hk W hb=>chkFn_any p k hk hfit W (h.next hb)
 unfold Prg.val at hc1 hc2 hc3 ⊢;have HC1:=hid hc1;have HC2:=hid hc2;have HC3:=hid hc3;clear hc1 hc2 hc3 h hfit;by_cases l1:p.funs.length=0
 ·have e1:((p.funs.length:Int) == 0)=true:=by rw [l1]; rfl
  have e2:(p.funs.length == 0)=true:=by rw [l1]; rfl
  have HNO:=hid (show ¬ V from fun v=>(HV.out.1 v).1.1 l1);clear l1;go_enter Tryz.func65,Tryz.ntmps65;go_wp2_with fail;go_ret;exact retE_no (by decide) HNO.out hT.below
 have e1:((p.funs.length:Int) == 0)=false:=beq_eq_false_iff_ne.2 (by omega);have e2:(p.funs.length == 0)=false:=beq_eq_false_iff_ne.2 (by omega);by_cases l2:p.funs.length≤32;rotate_left
 ·have g1:=Dt (show (32:Int)<p.funs.length by omega)
  have g2:=Dt (show 32<p.funs.length by omega);have HNO:=hid (show ¬ V from fun v=>l2 (HV.out.1 v).1.2.1);clear l2;go_enter Tryz.func65,Tryz.ntmps65;go_wp2_with fail;go_ret;exact retE_no (by decide) HNO.out hT.below
 have l2a:=Df (show ¬ (32:Int)<p.funs.length by omega);have l2b:=Df (show ¬ (32<p.funs.length) by omega);by_cases l3:p.obs.length≤16;rotate_left
 ·have g1:=Dt (show (16:Int)<p.obs.length by omega)
  have g2:=Dt (show 16<p.obs.length by omega);have HNO:=hid (show ¬ V from fun v=>l3 (HV.out.1 v).1.2.2.1);clear l3;go_enter Tryz.func65,Tryz.ntmps65;go_wp2_with fail;go_ret;exact retE_no (by decide) HNO.out hT.below
 have l3a:=Df (show ¬ (16:Int)<p.obs.length by omega);have l3b:=Df (show ¬ (16<p.obs.length) by omega);by_cases l4:p.vrs.length≤16;rotate_left
 ·have g1:=Dt (show (16:Int)<p.vrs.length by omega)
  have g2:=Dt (show 16<p.vrs.length by omega);have HNO:=hid (show ¬ V from fun v=>l4 (HV.out.1 v).1.2.2.2);clear l4;go_enter Tryz.func65,Tryz.ntmps65;go_wp2_with fail;go_ret;exact retE_no (by decide) HNO.out hT.below
 have l4a:=Df (show ¬ (16:Int)<p.vrs.length by omega);have l4b:=Df (show ¬ (16<p.vrs.length) by omega);have HL:=hid (And.intro l1 (And.intro l2 (And.intro l3 l4)));clear l1 l2 l3 l4;go_enter Tryz.func65,Tryz.ntmps65;go_upto_region 1 with fail;generalize World.alloc w _=W1 at hT ⊢;obtain ⟨xa0,xa1,xa2⟩:=bx3 hT.fst;go_wp2_with fail;go_loopw [32] (fun i wr=>∃ j:Nat,i=.int .i64 j∧j≤p.obs.length∧Hid (∀ (k:Nat) (hk:k<p.obs.length),k<j→obOk p k p.obs[k])∧One w wr [.slice p.funA p.funs.length p.funC,.slice p.obA p.obs.length p.obC,.slice p.vrA p.vrs.length p.vrC]) (fun i _=>p.obs.length - (intOf i).toNat)
 case atStart=>exact ⟨0,rfl,by omega,hid (fun k hk z=>by omega),hT⟩
 case round=>
  obtain ⟨j,rfl,hj,HSa,hTa⟩:=hrel;obtain ⟨xa0,xa1,xa2⟩:=bx3 hTa.fst;have hj0:=zi j;by_cases hlt:j<p.obs.length
  ·have hwr1:=Wi j (by omega)
   have hd1:=Dt (show (j:Int)<p.obs.length by omega);have hd2:=Dt hlt
   have HNX:Hid (obOk p j p.obs[j]→∀ (k:Nat) (hk:k<p.obs.length),k<j+1→obOk p k p.obs[k]):=hid (fun hh k hk z=>by
    by_cases e:k=j
    ·subst e; exact hh
    ·exact HSa.out k hk (by omega))
   have HBD:Hid (¬ obOk p j p.obs[j]→¬ V):=hid (fun hh v=>hh ((HV.out.1 v).2.1 j hlt));have HCJ:=hid (HC1.out j hlt);generalize obOk p j p.obs[j]=PX at HNX HBD HCJ;go_wp2_with fail;refine (HCJ.out _ hTa.below).mono ?_;rintro e w5 ⟨nn,rfl,hnn,hb5⟩;have HNN:=hid hnn;have hT5:=hTa.next hb5;clear hnn;by_cases hn0:nn=0
   ·subst hn0
    have HS2:=hid (HNX.out (HNN.out.1 rfl));clear HNN HNX HBD;go_wp2_with fail;exact ⟨⟨j+1,by go_num,by omega,HS2,hT5⟩,by simp [intOf]; omega⟩
   ·have en:(nn != 0)=true:=by simpa using hn0
    have HNO:=hid (HBD.out (fun hh=>hn0 (HNN.out.2 hh)));have HN0:=hid hn0;clear hn0 HNN HNX HBD;go_wp2_with fail;go_ret;exact retE_no HN0.out HNO.out hT5.below
  ·have hd1:=Df (show ¬ (j:Int)<p.obs.length by omega)
   have hd2:=Df hlt;have HALLa:Hid (∀ (k:Nat) (hk:k<p.obs.length),obOk p k p.obs[k]):=hid (fun k hk=>HSa.out k hk (by omega));clear hlt hj HSa;go_wp2_with fail;go_loopw [45] (fun i wr=>∃ j:Nat,i=.int .i64 j∧j≤p.vrs.length∧Hid (∀ (k:Nat) (hk:k<p.vrs.length),k<j→vrOk p k p.vrs[k])∧One w wr [.slice p.funA p.funs.length p.funC,.slice p.obA p.obs.length p.obC,.slice p.vrA p.vrs.length p.vrC]) (fun i _=>p.vrs.length - (intOf i).toNat)
   case atStart=>exact ⟨0,rfl,by omega,hid (fun k hk z=>by omega),hTa⟩
   case round=>
    obtain ⟨j,rfl,hj,HSb,hTb⟩:=hrel;obtain ⟨xb0,xb1,xb2⟩:=bx3 hTb.fst;have hj0:=zi j;by_cases hlt:j<p.vrs.length
    ·have hwr1:=Wi j (by omega)
     have hd1:=Dt (show (j:Int)<p.vrs.length by omega);have hd2:=Dt hlt
     have HNX:Hid (vrOk p j p.vrs[j]→∀ (k:Nat) (hk:k<p.vrs.length),k<j+1→vrOk p k p.vrs[k]):=hid (fun hh k hk z=>by
      by_cases e:k=j
      ·subst e; exact hh
      ·exact HSb.out k hk (by omega))
     have HBD:Hid (¬ vrOk p j p.vrs[j]→¬ V):=hid (fun hh v=>hh ((HV.out.1 v).2.2.1 j hlt));have HCJ:=hid (HC2.out j hlt);generalize vrOk p j p.vrs[j]=PX at HNX HBD HCJ;go_wp2_with fail;refine (HCJ.out _ hTb.below).mono ?_;rintro e w5 ⟨nn,rfl,hnn,hb5⟩;have HNN:=hid hnn;have hT5:=hTb.next hb5;clear hnn;by_cases hn0:nn=0
     ·subst hn0
      have HS2:=hid (HNX.out (HNN.out.1 rfl));clear HNN HNX HBD;go_wp2_with fail;exact ⟨⟨j+1,by go_num,by omega,HS2,hT5⟩,by simp [intOf]; omega⟩
     ·have en:(nn != 0)=true:=by simpa using hn0
      have HNO:=hid (HBD.out (fun hh=>hn0 (HNN.out.2 hh)));have HN0:=hid hn0;clear hn0 HNN HNX HBD;go_wp2_with fail;go_ret;exact retE_no HN0.out HNO.out hT5.below
    ·have hd1:=Df (show ¬ (j:Int)<p.vrs.length by omega)
     have hd2:=Df hlt;have HALLb:Hid (∀ (k:Nat) (hk:k<p.vrs.length),vrOk p k p.vrs[k]):=hid (fun k hk=>HSb.out k hk (by omega));clear hlt hj HSb;go_wp2_with fail;go_loopw [58] (fun i wr=>∃ j:Nat,i=.int .i64 j∧j≤p.funs.length∧Hid (∀ (k:Nat) (hk:k<p.funs.length),k<j→fnOk p k p.funs[k])∧One w wr [.slice p.funA p.funs.length p.funC,.slice p.obA p.obs.length p.obC,.slice p.vrA p.vrs.length p.vrC]) (fun i _=>p.funs.length - (intOf i).toNat)
     case atStart=>exact ⟨0,rfl,by omega,hid (fun k hk z=>by omega),hTb⟩
     case round=>
      obtain ⟨j,rfl,hj,HSc,hTc⟩:=hrel;obtain ⟨xc0,xc1,xc2⟩:=bx3 hTc.fst;have hj0:=zi j;by_cases hlt:j<p.funs.length
      ·have hwr1:=Wi j (by omega)
       have hd1:=Dt (show (j:Int)<p.funs.length by omega);have hd2:=Dt hlt
       have HNX:Hid (fnOk p j p.funs[j]→∀ (k:Nat) (hk:k<p.funs.length),k<j+1→fnOk p k p.funs[k]):=hid (fun hh k hk z=>by
        by_cases e:k=j
        ·subst e; exact hh
        ·exact HSc.out k hk (by omega))
       have HBD:Hid (¬ fnOk p j p.funs[j]→¬ V):=hid (fun hh v=>hh ((HV.out.1 v).2.2.2 j hlt));have HCJ:=hid (HC3.out j hlt);generalize fnOk p j p.funs[j]=PX at HNX HBD HCJ;go_wp2_with fail;refine (HCJ.out _ hTc.below).mono ?_;rintro e w5 ⟨nn,rfl,hnn,hb5⟩;have HNN:=hid hnn;have hT5:=hTc.next hb5;clear hnn;by_cases hn0:nn=0
       ·subst hn0
        have HS2:=hid (HNX.out (HNN.out.1 rfl));clear HNN HNX HBD;go_wp2_with fail;exact ⟨⟨j+1,by go_num,by omega,HS2,hT5⟩,by simp [intOf]; omega⟩
       ·have en:(nn != 0)=true:=by simpa using hn0
        have HNO:=hid (HBD.out (fun hh=>hn0 (HNN.out.2 hh)));have HN0:=hid hn0;clear hn0 HNN HNX HBD;go_wp2_with fail;go_ret;exact retE_no HN0.out HNO.out hT5.below
      ·have hd1:=Df (show ¬ (j:Int)<p.funs.length by omega)
       have hd2:=Df hlt;have HALLc:Hid (∀ (k:Nat) (hk:k<p.funs.length),fnOk p k p.funs[k]):=hid (fun k hk=>HSc.out k hk (by omega));clear hlt hj HSc;go_wp2_with fail;go_ret;exact retE_ok (HV.out.2 ⟨HL.out,HALLa.out,HALLb.out,HALLc.out⟩) hTc.below
theorem check_ok (p:Prg) (hfit:Fits p) (hv:prgOk p) (w:World) (h:Lies w w.heap.size p):Calls Tryz.prog 65 #[p.val] w (Ret (.int .i64 0) w):=(check_any p hfit w h).mono fun _ _ hh=>hh.ok hv
end
end Go.Proofs.YtkpjdanfpolimaaGreat
