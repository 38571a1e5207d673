/- Words of this seat's own: what a pure call leaves, a stretch of cells that reads as a list · append onto a row of the call's own from a slice that reads as a list, nil and empty let i · Programs in memory: what it is that a value of type ap -/
import Derived.WalkKit
import Derived.WalkSpells
import Derived.WalkLawsBesides
import Derived.Lib.Hide
import Derived.Maps.AppendAt
import Derived.Deep.AppendLies
import Derived.Deep.Draws
import Derived.Deep.RegionHeld
import Derived.Laws.AppendOwnNone
import Derived.Lib.AppendStr
import Derived.OwnWalkIn
import Derived.Test.YtkpjdanfpolimaaGreatProg
import Derived.Deep.RegionWith
set_option maxRecDepth 100000
set_option maxHeartbeats 1600000
namespace Go.Proofs.YtkpjdanfpolimaaGreat
section
open Go.RowKit
theorem frS:(∀ (l:List Value) (i:Nat) (h:i<l.toArray.size),l.toArray[i]=l[i]'(by simpa using h))∧(∀ (a:Value) (l:List Value) (i:Nat) (h:i+1<(a::l).length),(a::l)[i+1]=l[i]'(Nat.lt_of_succ_lt_succ h)) ∧
    (∀ (a:Value) (l:List Value),(a::l)[0]'(Nat.zero_lt_succ _)=a)∧(∀ (l:List Value) (i:Nat) (v:Value),l.toArray.setIfInBounds i v=(l.set i v).toArray) ∧
    (∀ (a b:Value) (l:List Value),(a::l).set 0 b=b::l)∧(∀ (a b:Value) (l:List Value) (i:Nat),(a::l).set (i+1) b=a::l.set i b):=
  ⟨fun _ _ _=>List.getElem_toArray ..,fun _ _ _ _=>List.getElem_cons_succ ..,fun _ _=>rfl,fun _ _ _=>List.setIfInBounds_toArray ..,fun _ _ _=>rfl,fun _ _ _ _=>rfl⟩
theorem ms {n k:Nat} (h:k<n):n - (intOf (Value.int IntKind.i64 ((k:Int)+1))).toNat<n - (intOf (Value.int IntKind.i64 (k:Int))).toNat:=by simp only [intOf]; omega
theorem Wi (k:Nat) (h:k<9223372036854775807):IntKind.i64.wrap ((k:Int)+1)=(k:Int)+1:=by rw [IntKind.wrap_i64]; omega
theorem Wj (k:Nat) (h:k≤9223372036854775808):IntKind.i64.wrap ((k:Int) - 1)=(k:Int) - 1:=by rw [IntKind.wrap_i64]; omega
theorem zi (k:Nat):(0:Int)≤(k:Int):=Int.natCast_nonneg k
theorem Dt {q:Prop} [Decidable q] (h:q):decide q=true:=decide_eq_true h
theorem Df {q:Prop} [Decidable q] (h:¬ q):decide q=false:=decide_eq_false h
theorem hid {q:Prop} (h:q):Hid q:=Lib.hid h
section
variable {P:Program} {ops:Array Oper} {Q:Exit→Act→World→Prop} {md:Region.Mode} {S:World→Prop} {i:Nat} {oi:Oper} {fuel:Nat} {listed:Array Bool} {a:Act} {w:World}
theorem tkH (i:Nat) {oi:Oper} {v:Value} (hi:ops[i]? = some oi) (h:wpAnyH P md ops Q S fuel (listed.setIfInBounds i true) (a.put oi.dst v) w)
    (hQ:∀ c a' w,Q (.panic c) (a'.put oi.dst v) w→Q (.panic c) a' w:=by first | exact fun _ _ _ h=>h | exact fun _ _ _ h=>nomatch h.1) (hs:Region.noSelect ops=true:=by kernel_rfl) (hf:Region.free md ops listed i=true:=by kernel_rfl) (hr:(Region.ready md ops listed).contains i=true:=by kernel_rfl) (hw:Region.wanted oi (yielded ops a.tmps)=true:=by kernel_rfl)
    (hy:∀ w,S w→(execOp a.eval oi).run P w=.ok (.value v) w:=by intro w hSw; (try dsimp only at hSw); go_simp; with_reducible rfl) (hS:S w:=by assumption):wpAnyH P md ops Q S (fuel+1) listed a w:=wpAnyH_take hi hs hf hr hQ (.inl ⟨hw,hy⟩) hS h
theorem skH (i:Nat) {oi:Oper} (hi:ops[i]? = some oi) (h:wpAnyH P md ops Q S fuel (listed.setIfInBounds i true) (a.put oi.dst undef) w) (hQ:∀ c a' w,Q (.panic c) (a'.put oi.dst undef) w→Q (.panic c) a' w:=by exact fun _ _ _ h=>h)
    (hs:Region.noSelect ops=true:=by kernel_rfl) (hf:Region.free md ops listed i=true:=by kernel_rfl) (hr:(Region.ready md ops listed).contains i=true:=by kernel_rfl) (hw:Region.wanted oi (yielded ops a.tmps)=false:=by kernel_rfl) (hS:S w:=by assumption):wpAnyH P md ops Q S (fuel+1) listed a w:=wpAnyH_take hi hs hf hr hQ (.inr ⟨hw,rfl⟩) hS h
theorem rdH (i:Nat) {o:Oper} (ho:ops[i]? = some o) (h:∀ K':Act→World→Prop,Shut (∀ a w,S w→(S w→wpAnyH P md ops Q S fuel (listed.setIfInBounds i true) a w)→K' a w)→if Region.wanted o (yielded ops a.tmps)=true then Oper.wp P o a w K' Q else K' (a.put o.dst undef) w)
    (hr:Region.ready md ops listed=[i]:=by kernel_rfl):wpAnyH P md ops Q S (fuel+1) listed a w:=wpAnyH_ready hr (by simp) (AllReadyH.cons ho h AllReadyH.nil)
end

def Ret (v:Value) (w:World):Ending→World→Prop:=fun e w'=>e=.returned v∧Below w.heap.size w w'
theorem Ret.mk {v:Value} {w w':World} (h:Below w.heap.size w w'):Ret v w (.returned v) w':=⟨rfl,h⟩

def Rd (w:World) (B size:Nat) (A:Option Addr) (n:Nat) (xs:List Value):Prop:=
 xs.length=n * size∧(n=0∨∃ b off:Nat,A=some ⟨b,off,none⟩∧b<B∧∀ j u,xs[j]? = some u→w.cell? ⟨b,off+j,none⟩=some u)

section
variable {w w':World} {B B' size n:Nat} {A:Option Addr} {xs:List Value}
theorem Rd.len (h:Rd w B size A n xs):xs.length=n * size:=h.1
theorem Rd.nil_:Rd w B size A 0 []:=⟨by simp,.inl rfl⟩
theorem Rd.addr (h:Rd w B size A n xs) (hn:0<n):∃ b off:Nat,A=some ⟨b,off,none⟩∧b<B∧∀ j u,xs[j]? = some u→w.cell? ⟨b,off+j,none⟩=some u:=by
 rcases h.2 with h0 | h1
 ·omega
 ·exact h1
theorem Rd.keep (h:Rd w B size A n xs) (hk:∀ p:Addr,p.block<B→w'.cell? p=w.cell? p):Rd w' B size A n xs:=by
 refine ⟨h.1,?_⟩;rcases h.2 with h0 | ⟨b,o,e,hb,hc⟩
 ·exact .inl h0
 ·exact .inr ⟨b,o,e,hb,fun j u hu=>(hk _ hb).trans (hc j u hu)⟩
theorem Rd.more (h:Rd w B size A n xs) (hB:B≤B'):Rd w B' size A n xs:=by
 refine ⟨h.1,?_⟩;rcases h.2 with h0 | ⟨b,o,e,hb,hc⟩
 ·exact .inl h0
 ·exact .inr ⟨b,o,e,by omega,hc⟩
theorem Rd.below (h:Rd w B size A n xs) (hb:Below B w w'):Rd w' B size A n xs:=h.keep fun _ hp=>hb.cell hp
theorem Rd.below' {C:Nat} (h:Rd w B size A n xs) (hb:Below C w w') (hC:B≤C):Rd w' B size A n xs:=h.below (hb.mono hC)
theorem Rd.drewN (h:Rd w B size A n xs) (k:Nat):Rd (w.drewN k) B size A n xs:=h
theorem Rd.alloc (h:Rd w B size A n xs) (hB:B≤w.heap.size) (o:Obj):Rd (w.alloc o) B size A n xs:=h.keep fun p hp=>World.cell?_alloc_lt w o p (by omega)
theorem Rd.setCell (h:Rd w B size A n xs) {p:Addr} (hB:B≤p.block) (u:Value):Rd (w.setCell p u) B size A n xs:=
 h.keep fun q hq=>World.cell?_setCell_other w p q u (fun e=>by subst e; omega)
theorem Rd.grown (h:Rd w B size A n xs) {row:Option Nat} (hg:w.grownBy w' row) (hB:B≤w.heap.size) (hr:∀ g,row=some g→B≤g):Rd w' B size A n xs:=
 h.keep fun p hp=>World.cell?_of_block (hg.block p.block (by omega) (fun e=>by have:=hr _ e.symm; omega))
theorem Rd.take (h:Rd w B size A n xs) {k:Nat} (hk:k≤n):Rd w B size A k (xs.take (k * size)):=by
 have hks:k * size≤n * size:=Nat.mul_le_mul_right _ hk;refine ⟨by rw [List.length_take,h.1]; omega,?_⟩;rcases h.2 with h0 | ⟨b,o,e,hb,hc⟩
 ·exact .inl (by omega)
 ·refine .inr ⟨b,o,e,hb,fun j u hu=>hc j u ?_⟩
  rw [List.getElem?_take] at hu;split at hu
  ·exact hu
  ·cases hu
theorem Rd.drop (h:Rd w B size A n xs) {k cap:Nat} (hk:k≤n) (hc:n≤cap) :
  Rd w B size (if cap=k then A else A.map (·.add (k * size))) (n - k) (xs.drop (k * size)):=by
 refine ⟨by rw [List.length_drop,h.1,Nat.sub_mul],?_⟩;by_cases hn:n - k=0
 ·exact .inl hn
 ·right
  obtain ⟨b,o,rfl,hb,hcell⟩:=h.addr (by omega);rw [if_neg (by omega)];refine ⟨b,o+k * size,?_,hb,fun j u hu=>?_⟩
  ·by_cases h0:k * size=0
   ·simp [Addr.add,h0]
   ·simp [Addr.add,h0]
  ·rw [Nat.add_assoc]
   exact hcell _ u (by rw [← hu,List.getElem?_drop])
theorem Rd.of_own {base:Nat} {e:TypeId} {c:Nat} (h:w.ownsRow base e size (.slice A n c) n xs):Rd w w.heap.size size A n xs:=by
 refine ⟨h.1,?_⟩;by_cases hn:n=0
 ·exact .inl hn
 ·obtain ⟨g,cap,hv,_,hlt⟩:=h.form (by omega)
  have hA:A=some ⟨g,0,none⟩:=by injection hv
  subst hA;refine .inr ⟨_,0,rfl,hlt,fun j u hu=>?_⟩;have:=h.cells (g:=g) rfl j u hu;by_cases h0:j=0
  ·subst h0; simpa [Addr.add] using this
  ·simpa [Addr.add,h0] using this
theorem Rd.news (h:Rd w B size A n xs) {b off:Nat} (hA:A=some ⟨b,off,none⟩) (hn:0<n):∀ j u,xs[j]? = some u→w.cell? ((⟨b,off,none⟩:Addr).add j)=some u:=by
 obtain ⟨b',off',e,_,hc⟩:=h.addr hn;rw [hA] at e;cases e;intro j u hu;have:=hc j u hu;by_cases h0:j=0
 ·subst h0; simpa [Addr.add] using this
 ·simpa [Addr.add,h0] using this
end

theorem below_alloc (w:World) (o:Obj):Below w.heap.size w (w.alloc o):=(Below.refl _ _).alloc (Nat.le_refl _) o

theorem below_alloc2 {B:Nat} {w:World} (h:B≤w.heap.size) (o:Obj):Below B w (w.alloc o):=(Below.refl _ _).alloc h o

#print axioms Rd.drop
end
section
open Go.RowKit

section
variable {P:Program}
theorem run_append_none_ (w:World) (base:Nat) (t ty e:TypeId) (i:TypeInfo) (size:Nat) (ht:P.underlying t=some (.slice e)) (hi:P.info? e=some i)
  (v:Value) (n:Nat) (xs:List Value) (hown:w.ownsRow base e size v n xs) (c:Nat):(Builtin.append_ #[t,t] ty #[v,.slice none 0 c]).run P w=.ok v w:=by
 rcases hown.2 with ⟨rfl,rfl⟩ | ⟨g,cap,cur,rfl,_,_,hnc,_⟩
 ·simp [Builtin.append_,run_underlying ht,sizeOf,typeInfo,hi,Builtin.lenOf,Builtin.firstCells]
 ·simp [Builtin.append_,run_underlying ht,sizeOf,typeInfo,hi,Builtin.lenOf,Builtin.firstCells,hnc,storeCells]

theorem run_append_rd (w:World) (base:Nat) (t ty e:TypeId) (i:TypeInfo) (z:Value) (size bytes:Nat) (ht:P.underlying t=some (.slice e)) (hi:P.info? e=some i) (hz:i.zero=some z)
  (hsize:i.size=size) (hby:i.bytes=bytes) (hzs:z.cells.size=size) (hsz:0<size)
  (v:Value) (n:Nat) (xs:List Value) (hown:w.ownsRow base e size v n xs)
  (B:Nat) (A:Option Addr) (m c:Nat) (news:List Value) (hr:Rd w B size A m news) (h1:∀ u∈news,u.oneCell'=true)
  (h63:n+m≤maxLen) (hbytes:(n+m) * bytes≤140737488355328) (hbase:base≤w.heap.size) :
  ∃ v' w',(Builtin.append_ #[t,t] ty #[v,.slice A m c]).run P w=.ok v' w'∧w'.ownsRow base e size v' (n+m) (xs++news)∧w.grownBy w' v.ownBlock ∧
   (v'.ownBlock=v.ownBlock∨v'.ownBlock=some w.heap.size):=by
 cases A with
 | none=>
  obtain rfl:m=0:=by
   rcases hr.2 with h0 | ⟨b,o,h,_⟩
   ·exact h0
   ·cases h
  obtain rfl:news=[]:=List.eq_nil_of_length_eq_zero (by simpa using hr.1);exact ⟨v,w,run_append_none_ w base t ty e i size ht hi v n xs hown c,by simpa using hown,World.grownBy.refl w _,.inl rfl⟩
 | some ad=>
  have hc:∀ j u,news[j]? = some u→w.cell? (ad.add j)=some u:=by
   rcases hr.2 with h0 | ⟨b,o,h,hb⟩
   ·subst h0
    obtain rfl:news=[]:=List.eq_nil_of_length_eq_zero (by simpa using hr.1);intro j u hu; simp at hu
   ·cases h
    intro j u hu;have:=hb.2 j u hu;by_cases h0:j=0
    ·subst h0; simpa [Addr.add] using this
    ·simpa [Addr.add,h0] using this
  obtain ⟨v',w',h2,h3,h4,_,h5⟩:=run_append_own_at (P:=P) w base t ty e i z size bytes ht hi hz hsize hby hzs hsz v n xs hown ad m c news hr.1 hc h1 h63 hbytes hbase;exact ⟨v',w',h2,h3,h4,h5⟩

theorem wpList_append_rd {ops:Array Oper} {rest:List Oper} {o:Oper} {a:Act} {w:World} {Q:Exit→Act→World→Prop} (hgd:o.guard=none) (s x:Operand) (t:TypeId)
  (ho:o.op=.call { callee:=.builtin .append,args:=#[s,x],argTypes:=#[t,t] })
  (base:Nat) (e:TypeId) (i:TypeInfo) (z:Value) (size bytes:Nat) (ht:P.underlying t=some (.slice e)) (hi:P.info? e=some i) (hz:i.zero=some z)
  (hsize:i.size=size) (hby:i.bytes=bytes) (hzs:z.cells.size=size) (hsz:0<size)
  (v:Value) (n:Nat) (xs:List Value) (hs:a.eval s=v) (hown:w.ownsRow base e size v n xs)
  (B:Nat) (A:Option Addr) (m c:Nat) (news:List Value) (hx:a.eval x=.slice A m c) (hr:Rd w B size A m news) (h1:∀ u∈news,u.oneCell'=true)
  (h63:n+m≤maxLen) (hbytes:(n+m) * bytes≤140737488355328) (hbase:base≤w.heap.size)
  (h:∀ v' w',w'.ownsRow base e size v' (n+m) (xs++news)→w.grownBy w' v.ownBlock→(v'.ownBlock=v.ownBlock∨v'.ownBlock=some w.heap.size)→wpList P ops Q rest (a.put o.dst v') w'):wpList P ops Q (o::rest) a w:=by
 refine wpList_plain hgd fun K hK=>?_
 obtain ⟨v',w',hrun,h2,h3,h4⟩:=run_append_rd (P:=P) w base t o.type e i z size bytes ht hi hz hsize hby hzs hsz v n xs hown B A m c news hr h1 h63 hbytes hbase;unfold Oper.wp execOp;simp only [ho,resolve,invoke,builtin,Sem.run_bind,Sem.run_pure,Result.andThen_ok,List.map_toArray,List.map_cons,List.map_nil,hs,hx,hrun];exact hK _ _ (h v' w' h2 h3 h4)
end

theorem own_form {w:World} {base:Nat} {e:TypeId} {size:Nat} {v:Value} {n:Nat} {xs:List Value} (h:w.ownsRow base e size v n xs):∃ A c,v=.slice A n c:=by
 rcases h.2 with ⟨rfl,rfl⟩ | ⟨g,cap,_,rfl,_⟩
 ·exact ⟨_,_,rfl⟩
 ·exact ⟨_,_,rfl⟩

def i64s (l:List Int):List Value:=l.map (.int .i64)
theorem i64s_append (l m:List Int):i64s (l++m)=i64s l++i64s m:=by simp [i64s]
theorem i64s_at (l:List Int) (k:Nat) (h:k<l.length):(i64s l)[k]? = some (.int .i64 l[k]):=by simp [i64s,h]

#print axioms wpList_append_rd
end
section
open Go.RowKit

structure Ins where
 op:Int
 a:Int
 b:Int
 c:Int
 args:List Int
 argA:Option Addr
 argC:Nat
structure Fn where
 name:ByteArray
 params:Int
 regs:Int
 prio:Int
 clean:Bool
 code:List Ins
 codeA:Option Addr
 codeC:Nat
structure Ob where
 name:ByteArray
 kind:Int
 size:Int
 other:Int
structure Vr where
 name:ByteArray
 init:Int
 atomic:Bool
structure Prg where
 funs:List Fn
 funA:Option Addr
 funC:Nat
 obs:List Ob
 obA:Option Addr
 obC:Nat
 vrs:List Vr
 vrA:Option Addr
 vrC:Nat

def Ins.cells (i:Ins):List Value:=[.int .i64 i.op,.int .i64 i.a,.int .i64 i.b,.int .i64 i.c,.slice i.argA i.args.length i.argC]
def Fn.cells (f:Fn):List Value:=[.string f.name,.int .i64 f.params,.int .i64 f.regs,.int .i64 f.prio,.bool f.clean,.slice f.codeA f.code.length f.codeC]
def Ob.cells (o:Ob):List Value:=[.string o.name,.int .i64 o.kind,.int .i64 o.size,.int .i64 o.other]
def Vr.cells (v:Vr):List Value:=[.string v.name,.int .i64 v.init,.bool v.atomic]
def Ins.val (i:Ins):Value:=.agg i.cells.toArray
def Fn.val (f:Fn):Value:=.agg f.cells.toArray
def Prg.val (p:Prg):Value:=.agg #[.slice p.funA p.funs.length p.funC,.slice p.obA p.obs.length p.obC,.slice p.vrA p.vrs.length p.vrC]

def RdL {α:Type} (w:World) (B s:Nat) (cells:α→List Value) (A:Option Addr) (l:List α):Prop:=Rd w B s A l.length (l.flatMap cells)
theorem flat_len {α:Type} {f:α→List Value} {s:Nat} (hs:∀ x,(f x).length=s) (l:List α):(l.flatMap f).length=l.length * s:=by
 induction l with
 | nil=>simp
 | cons x r ih=>rw [List.flatMap_cons,List.length_append,hs,ih,List.length_cons,Nat.add_mul]; omega
theorem flat_at {α:Type} {f:α→List Value} {s:Nat} (hs:∀ x,(f x).length=s):∀ (l:List α) (k:Nat) (hk:k<l.length) (j:Nat),j<s→(l.flatMap f)[k * s+j]? = (f l[k])[j]?
 | x::r,0,_,j,hj=>by
  rw [List.flatMap_cons,Nat.zero_mul,Nat.zero_add,List.getElem?_append_left (by rw [hs]; exact hj)];rfl
 | x::r,k+1,hk,j,hj=>by
  rw [List.flatMap_cons,List.getElem?_append_right (by rw [hs,Nat.add_mul]; omega),hs,show (k+1) * s+j - s=k * s+j from by rw [Nat.add_mul]; omega];exact flat_at hs r k (by simpa using hk) j hj
theorem RdL.at_ {α:Type} {w:World} {B s:Nat} {f:α→List Value} {A:Option Addr} {l:List α} (h:RdL w B s f A l) (hs:∀ x,(f x).length=s) {k:Nat} (hk:k<l.length) :
  ∃ b off:Nat,A=some ⟨b,off,none⟩∧b<B∧∀ j u,(f l[k])[j]? = some u→w.cell? ⟨b,off+k * s+j,none⟩=some u:=by
 obtain ⟨b,off,hA,hb,hc⟩:=Rd.addr h (by omega);refine ⟨b,off,hA,hb,fun j u hu=>?_⟩
 have hj:j<s:=by
  rcases Nat.lt_or_ge j s with h9 | h9
  ·exact h9
  ·rw [List.getElem?_eq_none (by rw [hs]; exact h9)] at hu; cases hu
 rw [Nat.add_assoc];exact hc _ u ((flat_at hs l k hk j hj).trans hu)

structure Lies (w:World) (B:Nat) (p:Prg):Prop where
 funs:RdL w B 6 Fn.cells p.funA p.funs
 obs:RdL w B 4 Ob.cells p.obA p.obs
 vrs:RdL w B 3 Vr.cells p.vrA p.vrs
 code:∀ f∈p.funs,RdL w B 5 Ins.cells f.codeA f.code
 args:∀ f∈p.funs,∀ i∈f.code,Rd w B 1 i.argA i.args.length (i64s i.args)
 funN:p.funs.length≤maxLen
 obN:p.obs.length≤maxLen
 vrN:p.vrs.length≤maxLen
 codeN:∀ f∈p.funs,f.code.length≤maxLen∧f.name.size≤maxLen∧f.code.length≤f.codeC
 caps:p.funs.length≤p.funC∧p.obs.length≤p.obC∧p.vrs.length≤p.vrC
 argN:∀ f∈p.funs,∀ i∈f.code,i.args.length≤maxLen∧i.args.length≤i.argC
 obNm:∀ o∈p.obs,o.name.size≤maxLen
 vrNm:∀ v∈p.vrs,v.name.size≤maxLen
theorem Lies.below {w w':World} {B:Nat} {p:Prg} (h:Lies w B p) (hb:Below B w w'):Lies w' B p:=
 ⟨Rd.below h.funs hb,Rd.below h.obs hb,Rd.below h.vrs hb,fun f hf=>Rd.below (h.code f hf) hb,fun f hf i hi=>Rd.below (h.args f hf i hi) hb,h.funN,h.obN,h.vrN,h.codeN,h.caps,h.argN,h.obNm,h.vrNm⟩
theorem Lies.more {w:World} {B B':Nat} {p:Prg} (h:Lies w B p) (hB:B≤B'):Lies w B' p:=
 ⟨Rd.more h.funs hB,Rd.more h.obs hB,Rd.more h.vrs hB,fun f hf=>Rd.more (h.code f hf) hB,fun f hf i hi=>Rd.more (h.args f hf i hi) hB,h.funN,h.obN,h.vrN,h.codeN,h.caps,h.argN,h.obNm,h.vrNm⟩
theorem Lies.next {w w':World} {p:Prg} (h:Lies w w.heap.size p) (hb:Below w.heap.size w w'):Lies w' w'.heap.size p:=(h.below hb).more hb.size

section
variable {w:World} {B:Nat} {p:Prg}
theorem Lies.ob (h:Lies w B p) {k:Nat} (hk:k<p.obs.length):∃ b off:Nat,p.obA=some ⟨b,off,none⟩∧b<B∧w.cell? ⟨b,off+k * 4,none⟩=some (.string p.obs[k].name)∧w.cell? ⟨b,off+k * 4+1,none⟩=some (.int .i64 p.obs[k].kind) ∧
  w.cell? ⟨b,off+k * 4+2,none⟩=some (.int .i64 p.obs[k].size)∧w.cell? ⟨b,off+k * 4+3,none⟩=some (.int .i64 p.obs[k].other):=by
 obtain ⟨b,off,hA,hb,hc⟩:=RdL.at_ h.obs (fun _=>rfl) hk;exact ⟨b,off,hA,hb,hc 0 _ rfl,hc 1 _ rfl,hc 2 _ rfl,hc 3 _ rfl⟩
theorem Lies.vr (h:Lies w B p) {k:Nat} (hk:k<p.vrs.length):∃ b off:Nat,p.vrA=some ⟨b,off,none⟩∧b<B∧w.cell? ⟨b,off+k * 3,none⟩=some (.string p.vrs[k].name)∧w.cell? ⟨b,off+k * 3+1,none⟩=some (.int .i64 p.vrs[k].init) ∧
  w.cell? ⟨b,off+k * 3+2,none⟩=some (.bool p.vrs[k].atomic):=by
 obtain ⟨b,off,hA,hb,hc⟩:=RdL.at_ h.vrs (fun _=>rfl) hk;exact ⟨b,off,hA,hb,hc 0 _ rfl,hc 1 _ rfl,hc 2 _ rfl⟩
theorem Lies.fn (h:Lies w B p) {k:Nat} (hk:k<p.funs.length):∃ b off:Nat,p.funA=some ⟨b,off,none⟩∧b<B∧w.cell? ⟨b,off+k * 6,none⟩=some (.string p.funs[k].name)∧w.cell? ⟨b,off+k * 6+1,none⟩=some (.int .i64 p.funs[k].params) ∧
  w.cell? ⟨b,off+k * 6+2,none⟩=some (.int .i64 p.funs[k].regs)∧w.cell? ⟨b,off+k * 6+3,none⟩=some (.int .i64 p.funs[k].prio)∧w.cell? ⟨b,off+k * 6+4,none⟩=some (.bool p.funs[k].clean)∧w.cell? ⟨b,off+k * 6+5,none⟩=some (.slice p.funs[k].codeA p.funs[k].code.length p.funs[k].codeC):=by
 obtain ⟨b,off,hA,hb,hc⟩:=RdL.at_ h.funs (fun _=>rfl) hk;exact ⟨b,off,hA,hb,hc 0 _ rfl,hc 1 _ rfl,hc 2 _ rfl,hc 3 _ rfl,hc 4 _ rfl,hc 5 _ rfl⟩
theorem Lies.ins (h:Lies w B p) {f:Fn} (hf:f∈p.funs) {k:Nat} (hk:k<f.code.length):∃ b off:Nat,f.codeA=some ⟨b,off,none⟩∧b<B∧w.cell? ⟨b,off+k * 5,none⟩=some (.int .i64 f.code[k].op)∧w.cell? ⟨b,off+k * 5+1,none⟩=some (.int .i64 f.code[k].a) ∧
  w.cell? ⟨b,off+k * 5+2,none⟩=some (.int .i64 f.code[k].b)∧w.cell? ⟨b,off+k * 5+3,none⟩=some (.int .i64 f.code[k].c)∧w.cell? ⟨b,off+k * 5+4,none⟩=some (.slice f.code[k].argA f.code[k].args.length f.code[k].argC):=by
 obtain ⟨b,off,hA,hb,hc⟩:=RdL.at_ (h.code f hf) (fun _=>rfl) hk;exact ⟨b,off,hA,hb,hc 0 _ rfl,hc 1 _ rfl,hc 2 _ rfl,hc 3 _ rfl,hc 4 _ rfl⟩
end
end
section
open Go.RowKit
def inR2 (n lo hi:Int):Bool:=decide (lo≤n) && decide (n≤hi)
theorem within_any (n lo hi:Int) (w:World):Calls Tryz.prog 102 #[.int .i64 n,.int .i64 lo,.int .i64 hi] w (Ret (.bool (inR2 n lo hi)) w):=by
 unfold inR2;by_cases h1:lo≤n
 ·have e1:=Dt h1
  rw [e1];go_enter Tryz.func102,Tryz.ntmps102;go_wp2_with fail;go_ret;exact ⟨rfl,Below.refl _ _⟩
 ·have e1:=Df h1
  rw [e1];go_enter Tryz.func102,Tryz.ntmps102;go_wp2_with fail;go_ret;exact ⟨rfl,Below.refl _ _⟩
theorem between_any (n lo hi:Int) (w:World):Calls Tryz.prog 79 #[.int .i64 n,.int .i64 lo,.int .i64 hi] w (Ret (.bool (inR2 n lo hi)) w):=by
 unfold inR2;by_cases h1:lo≤n
 ·have e1:=Dt h1
  rw [e1];go_enter Tryz.func79,Tryz.ntmps79;go_wp2_with fail;go_ret;exact ⟨rfl,Below.refl _ _⟩
 ·have e1:=Df h1
  rw [e1];go_enter Tryz.func79,Tryz.ntmps79;go_wp2_with fail;go_ret;exact ⟨rfl,Below.refl _ _⟩
def sizesF (k:Int):Int × Int:=if k=6 then (0,100) else if k=4∨k=5∨k=7∨k=8 then (1,100) else (0,0)
theorem sizes_any (k:Int) (w:World):Calls Tryz.prog 99 #[.int .i64 k] w (Ret (.tuple #[.int .i64 (sizesF k).1,.int .i64 (sizesF k).2]) w):=by
 by_cases h6:k=6
 ·subst h6
  go_enter Tryz.func99,Tryz.ntmps99;go_wp2_with fail;go_ret2;exact ⟨rfl,Below.refl _ _⟩
 ·by_cases h4:k=4∨k=5∨k=7∨k=8
  ·have hf:sizesF k=(1,100):=by rw [sizesF,if_neg h6,if_pos h4]
   rw [hf];rcases h4 with rfl | rfl | rfl | rfl <;>
   ·go_enter Tryz.func99,Tryz.ntmps99
    go_wp2_with fail;go_ret2;exact ⟨rfl,Below.refl _ _⟩
  ·have hf:sizesF k=(0,0):=by rw [sizesF,if_neg h6,if_neg h4]
   rw [hf];have e1:(k == 4)=false:=by simp; omega
   have e2:(k == 5)=false:=by simp; omega
   have e3:(k == 6)=false:=by simp; omega
   have e4:(k == 7)=false:=by simp; omega
   have e5:(k == 8)=false:=by simp; omega
   clear hf h4 h6;go_enter Tryz.func99,Tryz.ntmps99;go_wp2_with fail;go_ret2;exact ⟨rfl,Below.refl _ _⟩
def othersF (n:Nat) (k:Int):Int × Int:=if k=3 then (0,(n:Int) - 1) else if k=4 then (0,1) else if k=8 then (1,1099511627776) else (0,0)
theorem others_any (p:Prg) (k:Int) (hn:p.obs.length≤maxLen) (w:World):Calls Tryz.prog 100 #[p.val,.int .i64 k] w (Ret (.tuple #[.int .i64 (othersF p.obs.length k).1,.int .i64 (othersF p.obs.length k).2]) w):=by
 unfold maxLen at hn;unfold Prg.val;by_cases h3:k=3
 ·subst h3
  have hwr:=Wj p.obs.length (by omega);go_enter Tryz.func100,Tryz.ntmps100;go_wp2_with fail;go_region;go_wp2_with fail;go_ret2;exact ⟨rfl,(below_alloc _ _).drew⟩
 ·by_cases h4:k=4
  ·subst h4
   go_enter Tryz.func100,Tryz.ntmps100;go_wp2_with fail;go_ret2;exact ⟨rfl,below_alloc _ _⟩
  ·by_cases h8:k=8
   ·subst h8
    go_enter Tryz.func100,Tryz.ntmps100;go_wp2_with fail;go_ret2;exact ⟨rfl,below_alloc _ _⟩
   ·have hf:othersF p.obs.length k=(0,0):=by rw [othersF,if_neg h3,if_neg h4,if_neg h8]
    rw [hf];have e1:(k == 3)=false:=by simpa using h3
    have e2:(k == 4)=false:=by simpa using h4
    have e3:(k == 8)=false:=by simpa using h8
    clear hf h3 h4 h8;go_enter Tryz.func100,Tryz.ntmps100;go_wp2_with fail;go_ret2;exact ⟨rfl,below_alloc _ _⟩
def insideF (n:Int) (len:Int):Int:=if inR2 n 0 (len - 1)=true then 0 else 2
theorem inside_any (n len:Int) (h0:0≤len) (h1:len≤9223372036854775807) (w:World):Calls Tryz.prog 139 #[.int .i64 n,.int .i64 len] w (Ret (.int .i64 (insideF n len)) w):=by
 have hwr:IntKind.i64.wrap (len - 1)=len - 1:=by rw [IntKind.wrap_i64]; omega
 unfold insideF;by_cases h:inR2 n 0 (len - 1)=true
 ·rw [if_pos h]
  go_enter Tryz.func139,Tryz.ntmps139;go_wp2_with fail;refine (within_any _ _ _ _).mono ?_;rw [h];rintro e w1 ⟨rfl,hb1⟩;go_wp2_with fail;go_ret;exact ⟨rfl,hb1⟩
 ·rw [if_neg h]
  have h':inR2 n 0 (len - 1)=false:=by simpa using h
  go_enter Tryz.func139,Tryz.ntmps139;go_wp2_with fail;refine (within_any _ _ _ _).mono ?_;rw [h'];rintro e w1 ⟨rfl,hb1⟩;go_wp2_with fail;go_ret;exact ⟨rfl,hb1⟩
def forbL:List Int:=[15,17,18,19,34,35,36,37,42,43]
theorem refForb_any (op:Int) (w:World):Calls Tryz.prog 96 #[.int .i64 op] w (Ret (.bool (decide (op∈forbL))) w):=by
 by_cases h:op∈forbL
 ·rw [decide_eq_true h]
  simp only [forbL,List.mem_cons,List.not_mem_nil,or_false] at h;rcases h with rfl | rfl | rfl | rfl | rfl | rfl | rfl | rfl | rfl | rfl <;>
  ·go_enter Tryz.func96,Tryz.ntmps96
   go_wp2_with fail;go_ret;exact ⟨rfl,Below.refl _ _⟩
 ·rw [decide_eq_false h]
  simp only [forbL,List.mem_cons,List.not_mem_nil,or_false,not_or] at h;obtain ⟨h1,h2,h3,h4,h5,h6,h7,h8,h9,h10⟩:=h;have e1:=beq_eq_false_iff_ne.2 h1;have e2:=beq_eq_false_iff_ne.2 h2;have e3:=beq_eq_false_iff_ne.2 h3;have e4:=beq_eq_false_iff_ne.2 h4;have e5:=beq_eq_false_iff_ne.2 h5;have e6:=beq_eq_false_iff_ne.2 h6;have e7:=beq_eq_false_iff_ne.2 h7;have e8:=beq_eq_false_iff_ne.2 h8;have e9:=beq_eq_false_iff_ne.2 h9;have e10:=beq_eq_false_iff_ne.2 h10;go_enter Tryz.func96,Tryz.ntmps96;go_wp2_with fail;go_ret;exact ⟨rfl,Below.refl _ _⟩
def idxF (l:List Int) (x:Int):Int:=match l.findIdx? (x == ·) with | some i=>(i:Int) | none=>-1
theorem findIdx_snoc (l:List Int) (x:Int) (k:Nat) (hk:k<l.length) (h:(l.take k).findIdx? (x == ·)=none):(l.take (k+1)).findIdx? (x == ·)=if x == l[k] then some k else none:=by
 rw [List.take_succ_eq_append_getElem hk,List.findIdx?_append,h];simp [List.length_take,Nat.min_eq_left (Nat.le_of_lt hk)]
theorem idx_any (A:Option Addr) (c:Nat) (l:List Int) (x:Int) (w:World) (h:Rd w w.heap.size 1 A l.length (i64s l)) (hm:l.length≤maxLen) :
  Calls Tryz.prog 53 #[.slice A l.length c,.int .i64 x] w (Ret (.int .i64 (idxF l x)) w):=by
 unfold maxLen at hm;go_enter Tryz.func53,Tryz.ntmps53;go_wp2_with fail;go_loopw [8] (fun i wr=>∃ k:Nat,i=.int .i64 k∧k≤l.length∧Hid ((l.take k).findIdx? (x == ·)=none)∧wr=w) (fun i _=>l.length - (intOf i).toNat)
 case atStart=>exact ⟨0,rfl,by omega,hid (by simp),rfl⟩
 case round=>
  obtain ⟨k,rfl,hk,hnone,rfl⟩:=hrel;by_cases hlt:k<l.length
  ·have hd1:=Dt (show (k:Int)<l.length by omega)
   have hd2:=Dt hlt;have hwr1:=Wi k (by omega);obtain ⟨b,off,rfl,hbb,hc⟩:=h.addr (by omega);have hc1:=hc k _ (i64s_at _ k hlt);have hs:=findIdx_snoc l x k hlt hnone.out;obtain ⟨y,hy⟩:∃ y,y=l[k]:=⟨_,rfl⟩
   rw [← hy] at hc1 hs;by_cases hxy:x=y
   ·have e1:(x == y)=true:=by simpa using hxy
    have hr:idxF l x=(k:Int):=by
     have h9:l.findIdx? (x == ·)=some k:=by
      rw [e1,if_pos rfl] at hs;rw [← List.take_append_drop (k+1) l,List.findIdx?_append,hs];rfl
     rw [idxF,h9]
    have HR:=hid hr;clear hs hr hc hxy;go_wp2_with fail;go_ret;exact ⟨by rw [HR.out]; rfl,Below.refl _ _⟩
   ·have e1:(x == y)=false:=by simpa using hxy
    rw [e1] at hs;have HS:=hid hs;clear hs hc hxy;go_wp2_with fail;exact ⟨⟨k+1,by go_num,by omega,hid HS.out,trivial⟩,by simp [intOf]; omega⟩
  ·have hd1:=Df (show ¬ (k:Int)<l.length by omega)
   have hd2:=Df hlt;obtain rfl:k=l.length:=by omega
   have hr:idxF l x = -1:=by have:=hnone.out; rw [List.take_length] at this; rw [idxF,this]
   have HR:=hid hr;clear hr;go_wp2_with fail;go_ret;exact ⟨by rw [HR.out]; rfl,Below.refl _ _⟩
theorem idxF_has (l:List Int) (x:Int):decide (0≤idxF l x)=decide (x∈l):=by
 unfold idxF
 cases h:l.findIdx? (x == ·) with
 | none=>
  rw [List.findIdx?_eq_none_iff] at h;have:x∉l:=fun hx=>by have:=h x hx; simp at this
  simp [this]
 | some i=>
  obtain ⟨hi,h1,_⟩:=List.findIdx?_eq_some_iff_getElem.1 h;have:x∈l:=by have:=eq_of_beq h1; rw [this]; exact List.getElem_mem _
  simp [this]
theorem has_any (A:Option Addr) (c:Nat) (l:List Int) (x:Int) (w:World) (h:Rd w w.heap.size 1 A l.length (i64s l)) (hm:l.length≤maxLen) :
  Calls Tryz.prog 138 #[.slice A l.length c,.int .i64 x] w (Ret (.bool (decide (x∈l))) w):=by
 rw [← idxF_has];go_enter Tryz.func138,Tryz.ntmps138;go_wp2_with fail;refine (idx_any A c l x _ h hm).mono ?_;rintro e w1 ⟨rfl,hb1⟩;go_wp2_with fail;go_ret;exact ⟨rfl,hb1⟩
theorem forb_any (op:Int) (w:World):Calls Tryz.prog 125 #[.int .i64 op] w (Ret (.bool (decide (op∈forbL))) w):=by
 have hown:=World.ownsRow_lit (base:=w.heap.size) (e:=3) (size:=1) w (i64s forbL).toArray 10 (Nat.le_refl _) (by unfold maxLen; omega) rfl;have hrd:Rd _ _ 1 _ forbL.length (i64s forbL):=Rd.of_own hown;clear hown;go_enter Tryz.func125,Tryz.ntmps125;go_wp2_with fail;refine (has_any _ 10 forbL op _ hrd (by unfold maxLen; decide)).mono ?_;rintro e w1 ⟨rfl,hb1⟩;go_wp2_with fail;go_ret;exact ⟨rfl,(below_alloc _ _).trans (hb1.mono (by simp))⟩
end
end Go.Proofs.YtkpjdanfpolimaaGreat
