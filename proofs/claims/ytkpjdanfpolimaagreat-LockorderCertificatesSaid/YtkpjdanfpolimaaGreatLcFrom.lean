/- lockorder's from: the order in which it yields. Conditions: the program lies in memory, it · lockorder's inside, walked. Conditions: the program lies in memory, it is valid. · lockorder's within, walked. Conditions: the analysis lies in mem -/
import Derived.Test.YtkpjdanfpolimaaGreatLcAsc
import Derived.Sort.QuietTacIn
import Derived.Sort.BigQuietIn
import Derived.Sort.CutIn
import Derived.Sort.LoopGhostIn
import Derived.Deep.OwnRows
import Derived.Test.YtkpjdanfpolimaaGreatLcCases
import Derived.Laws.EntriesVeiled
set_option maxRecDepth 100000
set_option maxHeartbeats 6400000
namespace Go.Proofs.YtkpjdanfpolimaaGreat
section
open Go.RowKit Go.Shelf
attribute [local go_sem] Oper.semAt_some
structure ItAb (B0:Nat) (A B:World):Prop where
 below:Below B0 A B
 rec_:∀ (k:Nat) (o:Obj),A.heap[k]? = some o→o.isCells=false→B.heap[k]? = some o
structure CellsKept (lo hi:Nat) (A B:World):Prop where
 size:A.heap.size≤B.heap.size
 cells:∀ (k:Nat) (c:Array Value) (e:TypeId) (fr:Nat × Nat),(k<lo∨hi≤k)→A.heap[k]? = some (.cells c e fr)→B.heap[k]? = some (.cells c e fr)
theorem ItAb.refl (B0:Nat) (A:World):ItAb B0 A A:=⟨Below.refl _ _,fun _ _ h _=>h⟩
theorem ItAb.trans {B0:Nat} {A B C:World} (h1:ItAb B0 A B) (h2:ItAb B0 B C):ItAb B0 A C:=⟨h1.below.trans h2.below,fun k o h hc=>h2.rec_ k o (h1.rec_ k o h hc) hc⟩
theorem ItAb.of_below {B0:Nat} {A B:World} (h:Below A.heap.size A B) (hB:B0≤A.heap.size):ItAb B0 A B:=⟨h.mono hB,fun k _ ho _=>(h.block k (Array.getElem?_eq_some_iff.1 ho).1).trans ho⟩
theorem ItAb.of_grown {B0 g:Nat} {A B:World} (h:A.grownBy B (some g)) (hg:B0≤g) (hB:B0≤A.heap.size) (hc:∀ o,A.heap[g]? = some o→o.isCells=true):ItAb B0 A B:=
 ⟨⟨h.os,h.tape,h.output,h.size,fun k hk=>h.block k (by omega) (by simp; omega)⟩,fun k o ho hn=>by
  by_cases e:k=g
  ·subst e; rw [hc o ho] at hn; cases hn
  ·exact (h.block k (Array.getElem?_eq_some_iff.1 ho).1 (by simpa using e)).trans ho⟩
theorem Rd.impl {W W':World} {B size n:Nat} {A:Option Addr} {xs:List Value} (h:Rd W B size A n xs) (hk:∀ (b o:Nat) (v:Value),b<B→W.cell? ⟨b,o,none⟩=some v→W'.cell? ⟨b,o,none⟩=some v):Rd W' B size A n xs:=by
 refine ⟨h.1,?_⟩;rcases h.2 with h0 | ⟨b,o,e,hb,hc⟩
 ·exact .inl h0
 ·exact .inr ⟨b,o,e,hb,fun j u hu=>hk _ _ _ hb (hc j u hu)⟩
theorem Lies.impl {W W':World} {B:Nat} {p:Prg} (h:Lies W B p) (hk:∀ (b o:Nat) (v:Value),b<B→W.cell? ⟨b,o,none⟩=some v→W'.cell? ⟨b,o,none⟩=some v):Lies W' B p:=
 ⟨Rd.impl h.funs hk,Rd.impl h.obs hk,Rd.impl h.vrs hk,fun f hf=>Rd.impl (h.code f hf) hk,fun f hf i hi=>Rd.impl (h.args f hf i hi) hk,h.funN,h.obN,h.vrN,h.codeN,h.caps,h.argN,h.obNm,h.vrNm⟩
theorem CellsKept.cell {lo hi:Nat} {A B:World} (h:CellsKept lo hi A B) {b o:Nat} {v:Value} (ha:b<lo∨hi≤b) (hc:A.cell? ⟨b,o,none⟩=some v):B.cell? ⟨b,o,none⟩=some v:=by
 obtain ⟨c,e,fr,hb,_⟩:=Go.Sort.cells_of_cell? hc;have hb':=h.cells b c e fr ha hb;simp only [World.cell?,hb,hb'] at hc ⊢;exact hc
structure FromMem (p:Prg) (lo b0:Nat) (f start:Nat) (stop:Int) (W:World):Prop where
 prog:Lies W lo p
 pb:Bx W b0 [.slice p.funA p.funs.length p.funC,.slice p.obA p.obs.length p.obC,.slice p.vrA p.vrs.length p.vrC]
 fb:Bx W (b0+1) [.int .i64 f]
 sb:Bx W (b0+2) [.int .i64 start]
 eb:Bx W (b0+3) [.int .i64 stop]
theorem FromMem.kept {p:Prg} {lo hi b0 f start:Nat} {stop:Int} {W W':World} (h:FromMem p lo b0 f start stop W) (hk:CellsKept lo hi W W') (hb:hi≤b0):FromMem p lo b0 f start stop W':=
 ⟨h.prog.impl fun _ _ _ hb' hc=>hk.cell (.inl hb') hc,fun j v hv=>hk.cell (.inr hb) (h.pb j v hv),fun j v hv=>hk.cell (.inr (by omega)) (h.fb j v hv),fun j v hv=>hk.cell (.inr (by omega)) (h.sb j v hv),fun j v hv=>hk.cell (.inr (by omega)) (h.eb j v hv)⟩
theorem FromMem.below {p:Prg} {lo b0 f start B:Nat} {stop:Int} {W W':World} (h:FromMem p lo b0 f start stop W) (hb:Below B W W') (hB:b0+4≤B) (hlo:lo≤B):FromMem p lo b0 f start stop W':=
 ⟨h.prog.below (hb.mono hlo),h.pb.below hb (by omega),h.fb.below hb (by omega),h.sb.below hb (by omega),h.eb.below hb (by omega)⟩
def unseen (n:Nat) (seen:List Nat):Nat:=((List.range n).filter (fun j=>decide (j∉seen))).length
theorem unseen_le (n:Nat) (seen:List Nat):unseen n seen≤n:=Nat.le_trans (List.length_filter_le _ _) (by rw [List.length_range]; omega)
theorem unseen_aux (seen:List Nat) (x:Nat) (hn:x∉seen):∀ l:List Nat,(l.filter (fun j=>decide (j∉x::seen))).length≤(l.filter (fun j=>decide (j∉seen))).length∧(x∈l→(l.filter (fun j=>decide (j∉x::seen))).length<(l.filter (fun j=>decide (j∉seen))).length):=by
 intro l
 induction l with
 | nil=>exact ⟨Nat.le_refl _,fun h=>by cases h⟩
 | cons y r ih=>
  obtain ⟨i1,i2⟩:=ih;by_cases hy:y=x
  ·subst hy
   have e1:decide (y∉y::seen)=false:=by simp
   have e2:decide (y∉seen)=true:=by simpa using hn
   rw [List.filter_cons,List.filter_cons,e1,e2];simp only [Bool.false_eq_true,if_false,if_true,List.length_cons];exact ⟨by omega,fun _=>by omega⟩
  ·have e1:decide (y∉x::seen)=decide (y∉seen):=by simp [hy]
   rw [List.filter_cons,List.filter_cons,e1];have hm:x∈y::r→x∈r:=fun h=>(List.mem_cons.1 h).resolve_left (fun e=>hy e.symm)
   cases decide (y∉seen) with
   | true=>simp only [if_true,List.length_cons]; exact ⟨by omega,fun h=>by have:=i2 (hm h); omega⟩
   | false=>simp only [Bool.false_eq_true,if_false]; exact ⟨i1,fun h=>i2 (hm h)⟩
theorem unseen_lt {n:Nat} {seen:List Nat} {x:Nat} (hx:x<n) (hn:x∉seen):unseen n (x::seen)<unseen n seen:=(unseen_aux seen x hn (List.range n)).2 (List.mem_range.2 hx)
theorem asc2_le (l:List Nat):(asc2 l).length≤l.length:=by
 unfold asc2;split
 ·split
  ·simp
  ·split <;> simp
 ·exact Nat.le_refl _
theorem next_le (p:Prg) (f k:Nat):(nextM p f k).length≤2:=by
 refine Nat.le_trans (asc2_le _) (Nat.le_trans (List.length_filter_le _ _) ?_);unfold nextRaw;split
 ·simp
 ·split
  ·simp
  ·split
   ·simp
   ·split <;> simp
theorem slice1 (g o1:Nat) (l:List Nat) (cap:Nat):∃ cu,(∀ W,(Instr.slice 27 (.slice (some ⟨g,o1,none⟩) (l.length+1) (cap+1)) (some (.int .i64 1)) none none).run Tryz.prog W=.ok (.slice cu l.length cap) W) ∧
  ∀ W,Wl W (.slice (some ⟨g,o1+1,none⟩) l.length cap) g l→Wl W (.slice cu l.length cap) g l:=by
 refine ⟨cutAddr (some ⟨g,o1,none⟩) (cap+1) 1 1,fun W=>run_slice_from (P:=Tryz.prog) Tryz.underlying27 Tryz.sizeOf3 (some ⟨g,o1,none⟩) (n:=l.length+1) (cap:=cap+1) (l:=1) (by omega) .i64 W,fun W h=>?_⟩;unfold cutAddr;by_cases e:cap=0
 ·subst e
  rw [if_pos rfl];obtain ⟨o2,c2,e1,h1,h2,h3,h4⟩:=h;injection e1 with e3 e4 e5;subst e5;exact ⟨o1,0,rfl,h1,h2,fun j hj=>by omega,fun j hj=>by omega⟩
 ·rw [if_neg (by omega)]
  simp only [Option.map_some,Nat.mul_one,addr_add];exact h
def seenF (seen:List Nat) (j:Nat):Value:=.bool (decide (j∈seen))
theorem from1_in (n:Nat) (hn:1≤n) (lY:Nat) (p:Prg) (hfit:Fits p) (hv:prgOk p) (lo hi b0 f start:Nat) (stop:Int) (hlo:lo≤hi) (hhi:hi≤b0) (hf:f<p.funs.length)
  (J Jx:List Nat→World→Prop) (hJ:∀ s A B,J s A→ItAb (b0+4) A B→J s B)
  (hY:∀ (pre:List Nat) (x:Nat) (W:World),J pre W→pre++[x] <+: fromL p f start stop→YieldAt Fence.wide (n - 1) Tryz.prog lY #[.int .i64 x] W fun e W'=>
   (e=.returned (.bool true)∧J (pre++[x]) W'∧CellsKept lo hi W W')∨(e=.returned (.bool false)∧Jx (pre++[x]) W'))
  (W:World) (hm:FromMem p lo b0 f start stop W) (hb:b0+4≤W.heap.size) (h0:J [] W) :
  CallsIn Fence.wide n Tryz.prog 144 #[.func (.yield lY) #[] #[],.pointer (some ⟨b0,0,none⟩),.pointer (some ⟨b0+1,0,none⟩),.pointer (some ⟨b0+2,0,none⟩),.pointer (some ⟨b0+3,0,none⟩)] W fun e W'=>(∃ v,e=.returned v) ∧
   ((∃ ys,ys=fromL p f start stop∧J ys W')∨(∃ pre,True∧Jx pre W')):=by
 have hW:=wf_of hv;have hl200:=hW.len f hf;obtain ⟨b,off,hA,hbl,-,d5⟩:=hm.prog.codeAt hf;obtain ⟨x0,x1,x2⟩:=bx3 hm.pb;have y0:=hm.fb 0 _ rfl;have s0:=hm.sb 0 _ rfl;have e0:=hm.eb 0 _ rfl;rw [hA] at x0;have f0:=zi f;have f1:(f:Int)<(p.funs.length:Int):=by omega
 have HNX:=hid (fun (W:World) (h:Lies W W.heap.size p) (k:Nat) (hk:k<p.len f)=>next_ok p hfit hv W h f k hf hk);have hmk:=fun W=>run_make_row' (P:=Tryz.prog) 82 4 (.bool false) 1 Tryz.underlying82 (by kernel_rfl) rfl .i64 .i64 (p.len f) (by omega) (by omega) W
 have hval:p.val=.agg #[.slice (some ⟨b,off,none⟩) p.funs.length p.funC,.slice p.obA p.obs.length p.obC,.slice p.vrA p.vrs.length p.vrC]:=by rw [Prg.val,hA]
 rw [hval] at HNX;have HA:=hid hA;clear hval hA;have hsz0:=hb;refine callsIn_of_wp Tryz.func144 rfl trivial ?_ rfl;simp only [Tryz.ntmps144,List.size_toArray,List.length_cons,List.length_nil,Nat.reduceAdd,Nat.reduceSub,Array.replicate_succ,Array.replicate_zero,List.push_toArray,List.append_toArray,List.nil_append,List.cons_append];gi_upto_region 2 with fail;have hb1:=below_alloc W (.cells (madeCells #[Value.bool false] (p.len f)) 4);have hrow:(W.alloc (.cells (madeCells #[Value.bool false] (p.len f)) 4)).rowIs W.heap.size 4 (p.len f) (seenF []):=(World.rowIs_made W (.bool false) (p.len f) 4).congr (fun i _=>rfl);have hm1:=hm.below hb1 hb (by omega);have hJ1:=hJ _ _ _ h0 (ItAb.of_below hb1 hb);have hz1:W.heap.size<(W.alloc (.cells (madeCells #[Value.bool false] (p.len f)) 4)).heap.size:=by simp
 clear hm h0 hb1 x0 x1 x2 y0 s0 e0 d5 hmk;generalize W.alloc _=W1 at hrow hm1 hJ1 hz1 ⊢;generalize W.heap.size=q at hrow hz1 hb hsz0 ⊢;have s0:=hm1.sb 0 _ rfl;gi_wp2;have hb2:=below_alloc W1 (.cells #[Value.int .i64 (start:Int)] 3)
 have hwl:Wl (W1.alloc (.cells #[Value.int .i64 (start:Int)] 3)) (.slice (some ⟨W1.heap.size,0,none⟩) 1 1) W1.heap.size [start]:=by
  refine ⟨0,1,rfl,by simp,by unfold maxLen; omega,fun j hj=>?_,fun j hj=>?_⟩
  ·have:j=0:=by simpa using hj
   subst this; simp
  ·have:j=0:=by omega
   subst this; simp
 have hrow2:=hrow.alloc (.cells #[Value.int .i64 (start:Int)] 3);have hm2:=hm1.below hb2 (by omega) (by omega);have hJ2:=hJ _ _ _ hJ1 (ItAb.of_below hb2 (by omega));have hz2:W1.heap.size<(W1.alloc (.cells #[Value.int .i64 (start:Int)] 3)).heap.size:=by simp
 clear hb2 hrow hm1 hJ1 s0;generalize W1.alloc _=W2 at hwl hrow2 hm2 hJ2 hz2 ⊢;generalize W1.heap.size=g0 at hwl hz2 hz1 ⊢;gi_loopg [8] (3 * unseen (p.len f) []+1) (fun k v wr=>∃ (pre seen l:List Nat) (m g:Nat),k=3 * unseen (p.len f) seen+l.length∧Hid (pre++fromM p f stop m seen l=fromL p f start stop)∧k≤m∧m≤700∧J pre wr∧FromMem p lo b0 f start stop wr∧wr.rowIs q 4 (p.len f) (seenF seen)∧Wl wr v g l∧q<g∧g<wr.heap.size)
 case atStart=>exact ⟨[],[],[start],3 * p.len f+2,g0,rfl,hid rfl,by have:=unseen_le (p.len f) []; omega,by omega,hJ2,hm2,hrow2,hwl,hz1,hz2⟩
 case round=>
  obtain ⟨pre,seen,l,m,g,hk,HE,hkm,hm7,hj,hmm,hro,hwl,hqg,hgz⟩:=hrel
  match l,hwl,hk,HE with
  | [],hwl,hk,HE=>
   obtain ⟨o1,cap,rfl,-,-,-,-⟩:=hwl;have HE2:Hid (pre=fromL p f start stop):=by show _=_; rw [← HE.out]; cases m <;> simp [fromM]
   clear HE;gi_wp2;go_end0;exact ⟨⟨_,rfl⟩,.inl ⟨pre,HE2.out,hj⟩⟩
  | x::l,hwl,hk,HE=>
   have HWF:=hid hwl;obtain ⟨o1,cap,rfl,hx0,hwl⟩:=hwl.tail;rw [List.length_cons] at hk;obtain ⟨m,rfl⟩:∃ m',m=m'+1:=⟨m - 1,by omega⟩
   obtain ⟨cu,hsl,hcl⟩:=slice1 g o1 l cap;have hg1:=Dt (show (0:Int)<((l.length+1:Nat):Int) by omega);have e0:=hmm.eb 0 _ rfl;have hx0':(0:Int)≤(x:Int):=by omega
   have HCL:=hid hcl;clear hcl;by_cases hge:p.len f≤x
   ·have HE2:Hid (pre++fromM p f stop m seen l=fromL p f start stop):=by show _=_; rw [← HE.out,fromM,if_pos (.inl hge)]
    have d1:=Dt (show (p.len f:Int)≤(x:Int) by omega);have d2:=Dt hge;clear hge;clear HE;gi_wp2;gi_roundg (3 * unseen (p.len f) seen+l.length)
    case measure=>omega
    case rel=>exact ⟨pre,seen,l,m,g,rfl,HE2,by omega,by omega,hj,hmm,hro,HCL.out _ hwl,hqg,hgz⟩
   ·have d1:=Df (show ¬ ((p.len f:Int)≤(x:Int)) by omega)
    have d2:=Df hge;have hxl:(x:Int)<(p.len f:Int):=by omega
    have hxn:x<p.len f:=by omega
    clear hge;by_cases hst2:(x:Int)=stop
    ·have HE2:Hid (pre++fromM p f stop m seen l=fromL p f start stop):=by show _=_; rw [← HE.out,fromM,if_pos (.inr (.inl hst2))]
     have d3:((x:Int) == stop)=true:=by simpa using hst2
     clear hst2;clear HE;gi_wp2;gi_roundg (3 * unseen (p.len f) seen+l.length)
     case measure=>omega
     case rel=>exact ⟨pre,seen,l,m,g,rfl,HE2,by omega,by omega,hj,hmm,hro,HCL.out _ hwl,hqg,hgz⟩
    ·have d3:((x:Int) == stop)=false:=by simpa using hst2
     have hc0:=hro.cell hxn;by_cases hse:x∈seen
     ·have HE2:Hid (pre++fromM p f stop m seen l=fromL p f start stop):=by show _=_; rw [← HE.out,fromM,if_pos (.inr (.inr hse))]
      have hcs:seenF seen x=.bool true:=by simp [seenF,hse]
      rw [hcs] at hc0;clear hcs hse;clear HE;gi_wp2;gi_roundg (3 * unseen (p.len f) seen+l.length)
      case measure=>omega
      case rel=>exact ⟨pre,seen,l,m,g,rfl,HE2,by omega,by omega,hj,hmm,hro,HCL.out _ hwl,hqg,hgz⟩
     ·have HE2:Hid (pre++x::fromM p f stop m (x::seen) (l++nextM p f x)=fromL p f start stop):=by show _=_; rw [← HE.out,fromM,if_neg (by intro e; rcases e with e | e | e; exact absurd e (by omega); exact hst2 e; exact hse e)]
      have hcs:seenF seen x=.bool false:=by simp [seenF,hse]
      rw [hcs] at hc0;have hfz:=hro.frozen x;have hun:=unseen_lt hxn hse;have hnl:=next_le p f x
      have hro2:=(hro.set x (.bool true)).congr (g:=seenF (x::seen)) (fun i _=>by
       by_cases e:i=x
       ·subst e; simp [seenF]
       ·simp [seenF,e])
      clear HE hst2 hcs hse;gi_upto_region 8 with fail
      have hab:ItAb (b0+4) wr (wr.setCell ⟨q,x,none⟩ (.bool true)):=by
       obtain ⟨cq,hq,-,-⟩:=hro;exact ItAb.of_grown (g:=q) ⟨rfl,rfl,rfl,by simp,fun k _ hne=>heap_setCell_other _ _ _ _ (fun e=>hne (by rw [e]))⟩ hb (by omega) (fun o ho=>by rw [hq] at ho; injection ho with ho; subst ho; rfl)
      have hmm2:=hmm.below hab.below (by omega) (by omega);have hj2:=hJ _ _ _ hj hab;have hwl2:Wl (wr.setCell ⟨q,x,none⟩ (.bool true)) (.slice (some ⟨g,o1,none⟩) (l.length+1) (cap+1)) g (x::l):=HWF.out.same fun _ _ _ e=>(heap_setCell_other _ _ _ _ (by show g≠q; omega)).trans e
      have hgz2:g<(wr.setCell ⟨q,x,none⟩ (.bool true)).heap.size:=by simpa using hgz
      have hx2:(wr.setCell ⟨q,x,none⟩ (.bool true)).cell? ⟨g,o1,none⟩=some (.int .i64 x):=(World.cell?_setCell_far _ _ _ _ (by show q≠g; omega)).trans hx0;clear hc0 hfz hro hmm hj hwl hgz e0 hab hx0;generalize wr.setCell ⟨q,x,none⟩ (.bool true)=W3 at hro2 hmm2 hj2 hwl2 hgz2 hx2 ⊢;obtain ⟨fn,tmps,assign,body,hy2,hR2⟩:=hY pre x W3 hj2 (by rw [← HE2.out]; exact ⟨fromM p f stop m (x::seen) (l++nextM p f x),by simp⟩);gi_wp2;refine hR2.mono ?_;rintro e W4 (⟨rfl,hj4,hk4⟩ | ⟨rfl,hjx⟩)
      ·have hmm4:=hmm2.kept hk4 hhi
       have hwl4:Wl W4 (.slice (some ⟨g,o1,none⟩) (l.length+1) (cap+1)) g (x::l):=hwl2.same fun c e fr h=>hk4.cells g c e fr (.inr (by omega)) h
       have hro4:W4.rowIs q 4 (p.len f) (seenF (x::seen)):=by
        obtain ⟨cq,h1,h2,h3⟩:=hro2;exact ⟨cq,hk4.cells q _ _ _ (.inr (by omega)) h1,h2,h3⟩
       have hgz4:g<W4.heap.size:=Nat.lt_of_lt_of_le hgz2 hk4.size;clear hmm2 hwl2 hro2 hk4 hj2 hx2 hY;obtain ⟨x0,x1,x2⟩:=bx3 hmm4.pb;have y0:=hmm4.fb 0 _ rfl;rw [HA.out] at x0;have HNX2:=hid (HNX.out W4 (hmm4.prog.more (by omega)) x hxn);gi_wp2;refine ⟨trivial,(callsIn_wide.2 HNX2.out).mono ?_⟩;rintro e W5 ⟨A5,c5,rfl,hrd5,-,hb5⟩;have hmm5:=hmm4.below hb5 (by omega) (by omega);have hwl5:=hwl4.below hb5 hgz4;have hro5:W5.rowIs q 4 (p.len f) (seenF (x::seen)):=hro4.of_block (hb5.block q (by omega));have hj5:=hJ _ _ _ hj4 (ItAb.of_below hb5 (by omega));have hgz5:g<W5.heap.size:=Nat.lt_of_lt_of_le hgz4 hb5.size;have hsz5:b0+4≤W5.heap.size:=by omega
       have hnn:(nats (nextM p f x)).length=(nextM p f x).length:=by simp [nats]
       rw [hnn] at hrd5 ⊢;clear hnn hmm4 hwl4 hro4 hj4 hgz4 hb5 x0 x1 x2 y0 hsl hg1;generalize nextM p f x=nx at hrd5 hnl HE2 ⊢;have hll:(x::l).length+nx.length≤100000:=by rw [List.length_cons]; omega
       gi_wp2_with (gi_at_builtin; refine wpListIn_append_wl rfl (.tmp 51) (.tmp 55) rfl rfl hwl5 A5 c5 rfl hrd5 hgz5 hll ?_; intro v6 g6 W6 hwl6 hg6 hgz6 hgr6; obtain ⟨ln,hln⟩:∃ ln,l++nx=ln:=⟨_,rfl⟩; rw [List.cons_append,hln] at hwl6; obtain ⟨o6,cap6,rfl,hx6,hwl6⟩:=hwl6.tail; obtain ⟨cu6,hsl6,hcl6⟩:=slice1 g6 o6 ln cap6; have HCL6:=hid hcl6; have HLN:=hid hln; clear hcl6 hln);have hlen6:ln.length=l.length+nx.length:=by rw [← HLN.out]; exact List.length_append
       have hE3:Hid ((pre++[x])++fromM p f stop m (x::seen) ln=fromL p f start stop):=by show _=_; rw [← HE2.out,← HLN.out]; simp
       have hab6:ItAb (b0+4) W5 W6:=ItAb.of_grown hgr6 (by omega) hsz5 (fun o ho=>by
        obtain ⟨o7,c7,e7,-,-,hc7,-⟩:=hwl5;obtain ⟨cc,ee,ff,hb7,-⟩:=Go.Sort.cells_of_cell? (hc7 0 (by simp));rw [hb7] at ho; injection ho with ho; subst ho; rfl)
       have hj6:=hJ _ _ _ hj5 hab6;have hmm6:=hmm5.below hab6.below (by omega) (by omega);have hro6:W6.rowIs q 4 (p.len f) (seenF (x::seen)):=hro5.of_block (hgr6.block q (by omega) (by simp; omega));have hqg6:q<g6:=by omega
       gi_roundg (3 * unseen (p.len f) (x::seen)+ln.length)
       case measure=>omega
       case rel=>exact ⟨pre++[x],x::seen,ln,m,g6,rfl,hE3,by omega,by omega,hj6,hmm6,hro6,HCL6.out _ hwl6,hqg6,hgz6⟩
      ·gi_wp2
       refine bodyPost_ret (results_none rfl _ _ _) rfl ?_;exact ⟨⟨_,rfl⟩,.inr ⟨_,trivial,hjx⟩⟩
theorem from_stops (n:Nat) (hn:1≤n) (p:Prg) (hfit:Fits p) (hv:prgOk p) (lo hi b0 f start:Nat) (stop:Int) (hlo:lo≤hi) (hhi:hi≤b0) (hf:f<p.funs.length) (w:World) (hm:FromMem p lo b0 f start stop w) (hb:b0+4≤w.heap.size) :
  SeqAc Fence.wide n Tryz.prog 144 #[.pointer (some ⟨b0,0,none⟩),.pointer (some ⟨b0+1,0,none⟩),.pointer (some ⟨b0+2,0,none⟩),.pointer (some ⟨b0+3,0,none⟩)] (fun x:Nat=>#[.int .i64 x]) (ItAb (b0+4)) (CellsKept lo hi) (fun ys=>ys=fromL p f start stop) (fun _=>True) (fun pre x=>pre++[x] <+: fromL p f start stop) w:=fun l J Jx W hW hJ hY h0=>
 from1_in n hn l p hfit hv lo hi b0 f start stop hlo hhi hf J Jx hJ hY W (hm.below hW hb (by omega)) (Nat.le_trans hb hW.size) h0
def fromObjs (p:Prg) (f start:Nat) (stop:Int) (w:World):World:=
 (((w.alloc (.cells #[.slice p.funA p.funs.length p.funC,.slice p.obA p.obs.length p.obC,.slice p.vrA p.vrs.length p.vrC] 26)).alloc (.cells #[.int .i64 f] 3)).alloc (.cells #[.int .i64 start] 3)).alloc (.cells #[.int .i64 stop] 3)
theorem fromObjs_below (p:Prg) (f start:Nat) (stop:Int) (w:World):Below w.heap.size w (fromObjs p f start stop w):=
 (((below_alloc _ _).trans (below_alloc2 (by simp) _)).trans (below_alloc2 (by simp; omega) _)).trans (below_alloc2 (by simp; omega) _)
theorem fromObjs_size (p:Prg) (f start:Nat) (stop:Int) (w:World):(fromObjs p f start stop w).heap.size=w.heap.size+4:=by simp [fromObjs]
theorem fromObjs_mem (p:Prg) (lo f start:Nat) (stop:Int) (w:World) (h:Lies w lo p) (hlo:lo≤w.heap.size):FromMem p lo w.heap.size f start stop (fromObjs p f start stop w):=by
 have h3:=three_new w #[.slice p.funA p.funs.length p.funC,.slice p.obA p.obs.length p.obC,.slice p.vrA p.vrs.length p.vrC] #[.int .i64 f] #[.int .i64 start] 26 3 3;have h4:=h3.next (below_alloc _ (.cells #[.int .i64 stop] 3));have h5:=bx_new ((((w.alloc (.cells #[.slice p.funA p.funs.length p.funC,.slice p.obA p.obs.length p.obC,.slice p.vrA p.vrs.length p.vrC] 26)).alloc (.cells #[.int .i64 f] 3)).alloc (.cells #[.int .i64 start] 3))) #[.int .i64 stop] 3;refine ⟨h.below ((fromObjs_below p f start stop w).mono hlo),h4.two.fst,h4.two.snd,h4.thd,?_⟩;have e:((((w.alloc (.cells #[.slice p.funA p.funs.length p.funC,.slice p.obA p.obs.length p.obC,.slice p.vrA p.vrs.length p.vrC] 26)).alloc (.cells #[.int .i64 f] 3)).alloc (.cells #[.int .i64 start] 3))).heap.size=w.heap.size+3:=by simp
 rw [e] at h5;exact h5
def fromVal (b0:Nat):Value:=.func (.func 144) #[] #[.pointer (some ⟨b0,0,none⟩),.pointer (some ⟨b0+1,0,none⟩),.pointer (some ⟨b0+2,0,none⟩),.pointer (some ⟨b0+3,0,none⟩)]
theorem from_any (p:Prg) (f start:Nat) (stop:Int) (w:World) :
  Calls Tryz.prog 128 #[p.val,.int .i64 f,.int .i64 start,.int .i64 stop] w fun e W=>e=.returned (fromVal w.heap.size)∧W=fromObjs p f start stop w:=by
 unfold Prg.val;go_enter Tryz.func128,Tryz.ntmps128;go_wp2_with fail;go_ret;exact ⟨rfl,rfl⟩
end
section
open Go.RowKit Go.Shelf
attribute [local go_sem] Oper.semAt_some
def twin (p:Prg) (f:Nat) (stop:Int) (j:Nat):Bool:=decide ((p.ins f j).op=35∧(p.ins f j).c=stop)
def insideStop (p:Prg) (f k:Nat):Int:=if (fromL p f (k+1) (p.ins f k).c).any (twin p f (p.ins f k).c) then -1 else (p.ins f k).c
theorem insideM_eq (p:Prg) (f k:Nat):insideM p f k=fromL p f (k+1) (insideStop p f k):=by
 unfold insideM insideStop twin;dsimp only;split <;> rfl
theorem fromM_mem {p:Prg} {f:Nat} {stop:Int}:∀ (m:Nat) (seen l:List Nat) (x:Nat),x∈fromM p f stop m seen l→x<p.len f
 | 0,_,_,_,h=>by cases h
 | _+1,_,[],_,h=>by cases h
 | m+1,seen,k::l,x,h=>by
  rw [fromM] at h;split at h
  ·exact fromM_mem m seen l x h
  ·rename_i hc
   rcases List.mem_cons.1 h with rfl | h
   ·exact Nat.lt_of_not_le (fun e=>hc (.inl e))
   ·exact fromM_mem m _ _ x h
theorem from_mem {p:Prg} {f start:Nat} {stop:Int} {x:Nat} (h:x∈fromL p f start stop):x<p.len f:=fromM_mem _ _ _ _ h
theorem CellsKept.refl (lo hi:Nat) (A:World):CellsKept lo hi A A:=⟨Nat.le_refl _,fun _ _ _ _ _ h=>h⟩
theorem CellsKept.trans {lo hi:Nat} {A B C:World} (h1:CellsKept lo hi A B) (h2:CellsKept lo hi B C):CellsKept lo hi A C:=⟨Nat.le_trans h1.size h2.size,fun k c e fr hk h=>h2.cells k c e fr hk (h1.cells k c e fr hk h)⟩
theorem CellsKept.putObj {lo hi l:Nat} {W:World} {o:Obj} (o':Obj) (h:W.heap[l]? = some o) (hc:o.isCells=false):CellsKept lo hi W (W.putObj l o'):=by
 refine ⟨by simp,fun k c e fr _ hk=>?_⟩;by_cases e1:k=l
 ·subst e1; rw [hk] at h; injection h with h; subst h; cases hc
 ·exact (World.putObj_heap_other e1).trans hk
theorem CellsKept.turn {lo hi:Nat} {W W':World} (h:Turn lo hi W W'):CellsKept lo hi W W':=⟨h.size,fun k _ _ _ hk hc=>(h.block k (Array.getElem?_eq_some_iff.1 hc).1 hk).trans hc⟩
theorem KeepsFrom.turn {lo hi B:Nat} {W W':World} (h:Turn lo hi W W') (hB:hi≤B):KeepsFrom B W W':=⟨h.size,fun k o hk ho _=>(h.block k (Array.getElem?_eq_some_iff.1 ho).1 (.inr (by omega))).trans ho⟩
theorem below_grownFrom {B:Nat} {W W':World} {row:Option Nat} (h:W.grownBy W' row) (hr:∀ r,row=some r→B≤r) (hB:B≤W.heap.size):Below B W W':=⟨h.os,h.tape,h.output,h.size,fun k hk=>h.block k (by omega) (fun e=>by have:=hr k e.symm; omega)⟩
structure InI (p:Prg) (f k:Nat) (A:Option Addr) (w:World) (r:Value) (W:World):Prop where
 pb:Bx W w.heap.size [.slice p.funA p.funs.length p.funC,.slice p.obA p.obs.length p.obC,.slice p.vrA p.vrs.length p.vrC]
 fb:Bx W (w.heap.size+1) [.int .i64 f]
 kb:Bx W (w.heap.size+2) [.int .i64 k]
 rb:Boxed W (w.heap.size+3) 103 r
 cb:Bx W (w.heap.size+4) [.slice A (p.len f) (p.fn f).codeC]
 eb:Bx W (w.heap.size+5) [.int .i64 (p.ins f k).c]
 bl:Below w.heap.size w W
theorem InI.next {p:Prg} {f k B:Nat} {A:Option Addr} {w W W':World} {r:Value} (h:InI p f k A w r W) (hb:Below B W W') (hB:w.heap.size+6≤B):InI p f k A w r W':=
 ⟨h.pb.below hb (by omega),h.fb.below hb (by omega),h.kb.below hb (by omega),(hb.block _ (by omega)).trans h.rb,h.cb.below hb (by omega),h.eb.below hb (by omega),h.bl.trans (hb.mono (by omega))⟩
theorem InI.setR {p:Prg} {f k:Nat} {A:Option Addr} {w W:World} {r:Value} (h:InI p f k A w r W) (r':Value):InI p f k A w r' (W.setCell ⟨w.heap.size+3,0,none⟩ r'):=by
 have hk:∀ (g:Nat) (cs:List Value),g≠w.heap.size+3→Bx W g cs→Bx (W.setCell ⟨w.heap.size+3,0,none⟩ r') g cs:=fun g cs hg hb j v hv=>(World.cell?_setCell_far _ _ _ _ (by show w.heap.size+3≠g; omega)).trans (hb j v hv)
 exact ⟨hk _ _ (by omega) h.pb,hk _ _ (by omega) h.fb,hk _ _ (by omega) h.kb,Boxed.set _ h.rb,hk _ _ (by omega) h.cb,hk _ _ (by omega) h.eb,h.bl.setCell (p:=⟨w.heap.size+3,0,none⟩) (by show _≤w.heap.size+3; omega) _⟩
theorem insideL_any (p:Prg) (hfit:Fits p) (hv:prgOk p) (f k:Nat) (hf:f<p.funs.length) (hk:k<p.len f) (w:World) (h:Lies w w.heap.size p) :
  Calls Tryz.prog 111 #[p.val,.int .i64 f,.int .i64 k] w fun e W=>∃ b0,e=.returned (fromVal b0)∧w.heap.size≤b0∧b0+4≤W.heap.size∧FromMem p w.heap.size b0 f (k+1) (insideStop p f k) W∧Below w.heap.size w W:=by
 have hF:∀ f,Fence.wide.fn f:=fun _=>trivial
 have hf1:=hF 111;have hf2:=hF 128;have hW:=wf_of hv;have hl:=hW.len f hf;obtain ⟨b,off,b2,off2,hA,hb,hb2,-,d5,q0,q1,q2,q3,q4⟩:=h.at_ hf hk;have f0:=zi f;have f1:(f:Int)<(p.funs.length:Int):=by omega
 have k0:=zi k;have k1:(k:Int)<(p.len f:Int):=by omega
 have kw:=Wi k (by omega);have HFR:Hid (∀ (stop:Int) (W:World),Calls Tryz.prog 128 #[p.val,.int .i64 f,.int .i64 ((k:Int)+1),.int .i64 stop] W fun e W'=>e=.returned (fromVal W.heap.size)∧W'=fromObjs p f (k+1) stop W):=fun stop W=>from_any p f (k+1) stop W
 unfold Prg.val at HFR ⊢;rw [hA] at HFR ⊢;have HH:=hid h;have HA:=hid hA;clear h hA;refine (callsIn_wide (n:=3)).1 ?_;refine callsIn_of_wp_marks Tryz.func111 rfl trivial ?_ rfl;simp only [Tryz.ntmps111,List.size_toArray,List.length_cons,List.length_nil,Nat.reduceAdd,Nat.reduceSub,Array.replicate_succ,Array.replicate_zero,List.push_toArray,List.append_toArray,List.nil_append,List.cons_append];gi_upto_region 1 with fail;have h3:=three_new w #[.slice (some ⟨b,off,none⟩) p.funs.length p.funC,.slice p.obA p.obs.length p.obC,.slice p.vrA p.vrs.length p.vrC] #[.int .i64 f] #[.int .i64 k] 26 3 3;have hbl3:Below w.heap.size w (((w.alloc (.cells #[.slice (some ⟨b,off,none⟩) p.funs.length p.funC,.slice p.obA p.obs.length p.obC,.slice p.vrA p.vrs.length p.vrC] 26)).alloc (.cells #[.int .i64 f] 3)).alloc (.cells #[.int .i64 k] 3)):=h3.two.below
 have hz3:(((w.alloc (.cells #[.slice (some ⟨b,off,none⟩) p.funs.length p.funC,.slice p.obA p.obs.length p.obC,.slice p.vrA p.vrs.length p.vrC] 26)).alloc (.cells #[.int .i64 f] 3)).alloc (.cells #[.int .i64 k] 3)).heap.size=w.heap.size+3:=by simp
 simp only [Nat.add_assoc,Nat.reduceAdd];generalize (((w.alloc _).alloc _).alloc _)=w3 at h3 hbl3 hz3 ⊢;have h4:=h3.next (below_alloc w3 (.cells #[.nilFunc] 103));have r4:=Boxed.new w3 103 .nilFunc;have hz4:(w3.alloc (.cells #[.nilFunc] 103)).heap.size=w.heap.size+4:=by simp [hz3]
 rw [hz3] at r4;clear h3 hbl3 hz3;generalize w3.alloc _=w4 at h4 r4 hz4 ⊢;have d5':=(h4.two.below.cell (p:=⟨b,off+f * 6+5,none⟩) hb).trans d5;have q3':=(h4.two.below.cell (p:=⟨b2,off2+k * 5+3,none⟩) hb2).trans q3;obtain ⟨x0,x1,x2⟩:=bx3 h4.two.fst;have y0:=h4.two.snd 0 _ rfl;have z0:=h4.thd 0 _ rfl;have HD5:=hid d5;clear d5 q0 q1 q2 q3 q4;gi_upto_region 2 with fail;have hb5:=below_alloc w4 (.cells #[.slice (some ⟨b2,off2,none⟩) (p.len f) (p.fn f).codeC] 58);have c5:=bx_new w4 #[.slice (some ⟨b2,off2,none⟩) (p.len f) (p.fn f).codeC] 58;have h5:=h4.next hb5;have r5:=r4.alloc (.cells #[.slice (some ⟨b2,off2,none⟩) (p.len f) (p.fn f).codeC] 58);have q5:=(hb5.cell (p:=⟨b2,off2+k * 5+3,none⟩) (by show b2<_; omega)).trans q3'
 have hz5:(w4.alloc (.cells #[.slice (some ⟨b2,off2,none⟩) (p.len f) (p.fn f).codeC] 58)).heap.size=w.heap.size+5:=by simp [hz4]
 rw [hz4] at c5;try simp only [hz4]
 clear x0 x1 x2 y0 z0 h4 r4 d5' q3' hb5 hz4;generalize w4.alloc _=w5 at h5 r5 c5 q5 hz5 ⊢;have z0:=h5.thd 0 _ rfl;have t0:=c5 0 _ rfl;gi_upto_region 3 with fail;have hb6:=below_alloc w5 (.cells #[.int .i64 (p.ins f k).c] 3);have e6:=bx_new w5 #[.int .i64 (p.ins f k).c] 3;have h6:=h5.next hb6;have r6:=r5.alloc (.cells #[.int .i64 (p.ins f k).c] 3);have c6:=c5.below hb6 (by omega);have hz6:(w5.alloc (.cells #[.int .i64 (p.ins f k).c] 3)).heap.size=w.heap.size+6:=by simp [hz5]
 rw [hz5] at e6;try simp only [hz5]
 have hI6:InI p f k (some ⟨b2,off2,none⟩) w .nilFunc (w5.alloc (.cells #[.int .i64 (p.ins f k).c] 3)):=⟨by rw [HA.out]; exact h6.two.fst,h6.two.snd,h6.thd,r6,c6,e6,h6.two.below⟩
 clear z0 t0 h5 r5 c5 q5 hb6 hz5 e6 h6 r6 c6;generalize w5.alloc _=w6 at hI6 hz6 ⊢;obtain ⟨x0,x1,x2⟩:=bx3 hI6.pb;rw [HA.out] at x0;have y0:=hI6.fb 0 _ rfl;have z0:=hI6.kb 0 _ rfl;have t0:=hI6.eb 0 _ rfl;gi_wp2;refine (callsIn_wide.2 (HFR.out _ _)).mono ?_;rintro e w7 ⟨rfl,rfl⟩;have hb7:=fromObjs_below p f (k+1) (p.ins f k).c w6;have hz7:=fromObjs_size p f (k+1) (p.ins f k).c w6;have hm7:=fromObjs_mem p w.heap.size f (k+1) (p.ins f k).c w6 (HH.out.below hI6.bl) (by omega);have hI7:=hI6.next hb7 (by omega);rw [hz6] at hz7 hm7;try simp only [hz6]
 clear x0 x1 x2 y0 z0 t0 hI6 hb7 hz6;generalize fromObjs p f (k+1) (p.ins f k).c w6=w7 at hz7 hm7 hI7 ⊢;unfold fromVal;gi_wp2
 refine wpIn_rangeFunc_ac rfl (by omega) (gf:=144) (lb:=#[.pointer (some ⟨w.heap.size+6,0,none⟩),.pointer (some ⟨w.heap.size+6+1,0,none⟩),.pointer (some ⟨w.heap.size+6+2,0,none⟩),.pointer (some ⟨w.heap.size+6+3,0,none⟩)]) rfl trivial (enters_of Tryz.func144 (by kernel_rfl) rfl)
  (from_stops 2 (by omega) p hfit hv w.heap.size w.heap.size (w.heap.size+6) f (k+1) (p.ins f k).c (Nat.le_refl _) (by omega) hf w7 hm7 (by omega))
  (fun h k=>h.trans k) (fun W l o o' _ hl hc _=>CellsKept.putObj o' hl hc) (Below.refl _ _) (fun _=>rfl)
  (fun A' B' k o hab _ ho hc=>hab.rec_ k o ho hc)
  (fun pre W=>InI p f k (some ⟨b2,off2,none⟩) w .nilFunc W∧w.heap.size+10≤W.heap.size∧∀ x∈pre,twin p f (p.ins f k).c x=false)
  (fun c pre W=>c=.ret∧∃ b0,InI p f k (some ⟨b2,off2,none⟩) w (fromVal b0) W∧w.heap.size+6≤b0∧b0+4≤W.heap.size∧FromMem p w.heap.size b0 f (k+1) (insideStop p f k) W)
  (fun s W W' row hs hg hr=>⟨hs.1.next (below_grownFrom (B:=w.heap.size+10) hg (fun r e=>by have:=(hr r e).1; omega) hs.2.1) (by omega),Nat.le_trans hs.2.1 hg.size,hs.2.2⟩)
  (fun c s W W' row hs hg hr=>by
   obtain ⟨rfl,b0,h1,h2,h3,h4⟩:=hs;have hk:CellsKept w.heap.size w.heap.size W W':=⟨hg.size,fun i cc e fr _ hc=>(hg.block i (Array.getElem?_eq_some_iff.1 hc).1 (fun e=>by obtain ⟨_,o,ho,hoc⟩:=hr i e.symm; rw [hc] at ho; injection ho with ho; subst ho; cases hoc)).trans hc⟩
   exact ⟨rfl,b0,h1.next (below_grownFrom (B:=w.heap.size+6) hg (fun r e=>by have:=(hr r e).1; omega) (by omega)) (by omega),h2,Nat.le_trans h3 hg.size,h4.kept hk (by omega)⟩)
  (fun pre A' B' hs hab=>⟨hs.1.next hab.below (by omega),Nat.le_trans hs.2.1 hab.below.size,hs.2.2⟩)
  ⟨hI7,by omega,fun x hx=>by cases hx⟩
  (fun x a' _=>a'={ tmps:=#[.agg #[.slice (some ⟨b,off,none⟩) p.funs.length p.funC,.slice p.obA p.obs.length p.obC,.slice p.vrA p.vrs.length p.vrC],.int .i64 f,.int .i64 k,.pointer (some ⟨w.heap.size,0,none⟩),.pointer (some ⟨w.heap.size+1,0,none⟩),.pointer (some ⟨w.heap.size+2,0,none⟩),.pointer (some ⟨w.heap.size+3,0,none⟩),.pointer (some ⟨w.heap.size+4,0,none⟩),.pointer (some ⟨w.heap.size+5,0,none⟩),.int .i64 (x:Nat),.pointer (some ⟨w.heap.size,0,none⟩),.slice (some ⟨b,off,none⟩) p.funs.length p.funC,.int .i64 f,.pointer (some ⟨b,off+f * 6,none⟩),.pointer (some ⟨b,off+f * 6+5,none⟩),.slice (some ⟨b2,off2,none⟩) (p.len f) (p.fn f).codeC,.slice (some ⟨b2,off2,none⟩) (p.len f) (p.fn f).codeC,.int .i64 k,.pointer (some ⟨b2,off2+k * 5,none⟩),.pointer (some ⟨b2,off2+k * 5+3,none⟩),.int .i64 (p.ins f k).c,.agg #[.slice (some ⟨b,off,none⟩) p.funs.length p.funC,.slice p.obA p.obs.length p.obC,.slice p.vrA p.vrs.length p.vrC],.int .i64 f,.int .i64 k,.int .i64 ((k:Int)+1),.int .i64 (p.ins f k).c,.func (.func 144) #[] #[.pointer (some ⟨w.heap.size+6,0,none⟩),.pointer (some ⟨w.heap.size+6+1,0,none⟩),.pointer (some ⟨w.heap.size+6+2,0,none⟩),.pointer (some ⟨w.heap.size+6+3,0,none⟩)],.int .i64 (x:Nat),undef,undef,undef,undef,undef,undef,undef,undef,undef,undef,undef,undef,undef,undef,undef,undef,undef,undef,undef,undef,undef,undef,undef,undef,undef,undef],defers:=[] })
  (fun _ _ _ _ _ hs _ _=>hs) ?assign ?body ?done ?stop
 case assign=>
  rintro l pre x W K hJ hK;gi_wp2;exact hK _ _ (KeepsFrom.refl _ _) (CellsKept.refl _ _ _) hJ rfl
 case stop=>
  rintro D c' pre W hD - ⟨rfl,b0,h1,h2,h3,h4⟩ hK;gi_wp2;have hgD:=grownBy_putObj' W D (.deferred none);refine ⟨by simp,.inl ⟨_,_,rfl,run_takeDeferred hK,?_⟩⟩;refine ⟨_,results_cell1 rfl rfl (load_cell (by kernel_rfl) (h1.rb.kept hgD (by simp; omega)).cell),?_⟩;exact ⟨b0,rfl,by omega,by simpa using h3,h4.kept (CellsKept.putObj _ hK rfl) (by omega),h1.bl.grown hgD h1.bl.size (fun k e=>by cases e; omega)⟩
 case done=>
  rintro D ys W hD rfl ⟨hI,hsW,htw⟩ hK
  have HST:=hid (show insideStop p f k=(p.ins f k).c from by
   unfold insideStop;rw [if_neg];rw [List.any_eq_true];rintro ⟨x,hx,ht⟩;rw [htw x hx] at ht; cases ht)
  clear htw;obtain ⟨x0,x1,x2⟩:=bx3 hI.pb;rw [HA.out] at x0;have y0:=hI.fb 0 _ rfl;have z0:=hI.kb 0 _ rfl;have e0:=hI.eb 0 _ rfl;gi_wp2;refine (callsIn_wide.2 (HFR.out _ _)).mono ?_;rintro e w9 ⟨rfl,rfl⟩;have hb9:=fromObjs_below p f (k+1) (p.ins f k).c W;have hz9:=fromObjs_size p f (k+1) (p.ins f k).c W;have hm9:=fromObjs_mem p w.heap.size f (k+1) (p.ins f k).c W (HH.out.below hI.bl) (by omega);have hI9:=hI.next hb9 (by omega);have hK9:=(hb9.block D (Array.getElem?_eq_some_iff.1 hK).1).trans hK;clear x0 x1 x2 y0 z0 e0 hb9;generalize fromObjs p f (k+1) (p.ins f k).c W=w9 at hz9 hm9 hI9 hK9 ⊢;have r0:=hI9.rb.cell;have r1:=hI9.rb.frozen;have HI9:=hid hI9;clear hI9;unfold fromVal;gi_wp2;have hgD:=grownBy_putObj' (w9.setCell ⟨w.heap.size+3,0,none⟩ (fromVal W.heap.size)) D (.deferred none);have hE1:=HI9.out.setR (fromVal W.heap.size)
  have hED:(w9.setCell ⟨w.heap.size+3,0,none⟩ (fromVal W.heap.size)).heap[D]? = some (.deferred (some [])):=(Below.heap_setCell _ _ _ _ (by show _≠w.heap.size+3; omega)).trans hK9;refine ⟨by simp,.inl ⟨_,_,rfl,run_takeDeferred hED,?_⟩⟩;refine ⟨_,results_cell1 rfl rfl (load_cell (by kernel_rfl) (hE1.rb.kept hgD (by simp; omega)).cell),?_⟩
  have hk:CellsKept (w.heap.size+3) (w.heap.size+4) w9 ((w9.setCell ⟨w.heap.size+3,0,none⟩ (fromVal W.heap.size)).putObj D (.deferred none)):=⟨by simp,fun i c e fr hi hc=>by
   have hiD:i≠D:=fun e=>by rw [e,hK9] at hc; cases hc
   exact (World.putObj_heap_other hiD).trans ((heap_setCell_other _ _ _ _ (by show i≠w.heap.size+3; omega)).trans hc)⟩
  refine ⟨W.heap.size,rfl,by omega,by simp; omega,?_,hE1.bl.grown hgD hE1.bl.size (fun k e=>by cases e; omega)⟩;rw [HST.out];exact ⟨hm9.prog.impl fun b' o' v' hb' hc'=>hk.cell (.inl (by omega)) hc',fun j v hv=>hk.cell (.inr (by omega)) (hm9.pb j v hv),fun j v hv=>hk.cell (.inr (by omega)) (hm9.fb j v hv),fun j v hv=>hk.cell (.inr (by omega)) (hm9.sb j v hv),fun j v hv=>hk.cell (.inr (by omega)) (hm9.eb j v hv)⟩
 case body=>
  rintro lp pre x a' W ⟨hI,hsW,htw⟩ rfl hpre;have hxl:x<p.len f:=from_mem (hpre.subset (by simp));obtain ⟨g0,-,-,g3,-⟩:=code_at HH.out ⟨Nat.le_refl _,Nat.le_refl _⟩ HA.out hb2 HD5.out hf hxl (Turn.of_below hI.bl);have c0:=hI.cb 0 _ rfl;have e0:=hI.eb 0 _ rfl;have x0':(0:Int)≤(x:Int):=by omega
  have x1':(x:Int)<(p.len f:Int):=by omega
  have HI:=hid hI;have HTW:=hid htw;clear hI htw;by_cases ho:(p.ins f x).op=35
  ·by_cases hc:(p.ins f x).c=(p.ins f k).c
   ·have HST:=hid (show insideStop p f k = -1 from by
     unfold insideStop;rw [if_pos];rw [List.any_eq_true];exact ⟨x,hpre.subset (by simp),by unfold twin; exact decide_eq_true ⟨ho,hc⟩⟩)
    rw [ho] at g0;rw [hc] at g3;clear ho hc;gi_wp2;refine wp_round_quiet (by kernel_rfl) (by kernel_rfl) (fun h=>by obtain ⟨_,_,h⟩:=h; exact h) (by kernel_rfl) ?_
    repeat (go_big_quiet_step (fail))
    refine wpQuiet_nil ?_;rintro _ ⟨nq,rfl⟩;have hI2:=HI.out.next (below_drews W.heap.size W nq) (by omega);have hT2:Turn w.heap.size w.heap.size W (W.drewN nq):=(Turn.refl _ _ _).drewN nq;have hs2:w.heap.size+10≤(W.drewN nq).heap.size:=hsW;generalize W.drewN nq=W0 at hI2 hT2 hs2 ⊢;clear g0 g3 c0 e0;obtain ⟨x0,x1,x2⟩:=bx3 hI2.pb;rw [HA.out] at x0;have y0:=hI2.fb 0 _ rfl;have z0:=hI2.kb 0 _ rfl;gi_wp2;refine (CallsIn.inRound lp (callsIn_wide.2 (HFR.out _ _))).mono ?_;rintro e w9 ⟨rfl,rfl⟩;have hb9:=fromObjs_below p f (k+1) (-1) W0;have hz9:=fromObjs_size p f (k+1) (-1) W0;have hm9:=fromObjs_mem p w.heap.size f (k+1) (-1) W0 (HH.out.below hI2.bl) (by omega);have hI9:=hI2.next hb9 (by omega);have hT9:=hT2.trans (Turn.of_below hb9);clear x0 x1 x2 y0 z0 hb9;generalize fromObjs p f (k+1) (-1) W0=w9 at hz9 hm9 hI9 hT9 ⊢
    have r0:=hI9.rb.cell;have r1:=hI9.rb.frozen;have HI9:=hid hI9;clear hI9;unfold fromVal;gi_wp2;have hk:CellsKept (w.heap.size+3) (w.heap.size+4) w9 (w9.setCell ⟨w.heap.size+3,0,none⟩ (fromVal W0.heap.size)):=⟨by simp,fun i c e fr hi hc=>(heap_setCell_other _ _ _ _ (by show i≠w.heap.size+3; omega)).trans hc⟩
    have hTs:Turn (w.heap.size+3) (w.heap.size+4) W (w9.setCell ⟨w.heap.size+3,0,none⟩ (fromVal W0.heap.size)):=Turn.setCell ⟨hT9.os,hT9.tape,hT9.output,hT9.size,fun i hi _=>hT9.block i hi (by omega)⟩ (a:=⟨w.heap.size+3,0,none⟩) ⟨by show _≤w.heap.size+3; omega,by show w.heap.size+3<_; omega⟩ _;refine ⟨KeepsFrom.turn hTs (by omega),rfl,W0.heap.size,HI9.out.setR _,by omega,by simp; omega,?_⟩;rw [HST.out];exact ⟨hm9.prog.impl fun b' o' v' hb' hc'=>hk.cell (.inl (by omega)) hc',fun j v hv=>hk.cell (.inr (by omega)) (hm9.pb j v hv),fun j v hv=>hk.cell (.inr (by omega)) (hm9.fb j v hv),fun j v hv=>hk.cell (.inr (by omega)) (hm9.sb j v hv),fun j v hv=>hk.cell (.inr (by omega)) (hm9.eb j v hv)⟩
   ·have HNT:=hid (show twin p f (p.ins f k).c x=false from by unfold twin; exact decide_eq_false (fun e=>hc e.2))
    have e2:((p.ins f x).c == (p.ins f k).c)=false:=by simpa using hc
    rw [ho] at g0;clear ho hc e0;have e0:=HI.out.eb 0 _ rfl;gi_wp2;refine wp_round_quiet (by kernel_rfl) (by kernel_rfl) (fun h=>by obtain ⟨_,_,h⟩:=h; exact h) (by kernel_rfl) ?_
    repeat (go_big_quiet_step (fail))
    refine wpQuiet_nil ?_;rintro _ ⟨nq,rfl⟩;have hI2:=HI.out.next (below_drews W.heap.size W nq) (by omega);have hT2:Turn w.heap.size w.heap.size W (W.drewN nq):=(Turn.refl _ _ _).drewN nq;have hs2:w.heap.size+10≤(W.drewN nq).heap.size:=hsW;generalize W.drewN nq=W0 at hI2 hT2 hs2 ⊢;clear g0 g3 c0 e0;gi_wp2
    exact ⟨KeepsFrom.turn hT2 (by omega),CellsKept.turn hT2,hI2,hs2,fun y hy=>by
     rcases List.mem_append.1 hy with hy | hy
     ·exact HTW.out y hy
     ·rw [List.mem_singleton] at hy; rw [hy]; exact HNT.out⟩
  ·have HNT:=hid (show twin p f (p.ins f k).c x=false from by unfold twin; exact decide_eq_false (fun e=>ho e.1))
   have e2:((p.ins f x).op == 35)=false:=by simpa using ho
   clear ho;gi_wp2;refine wp_round_quiet (by kernel_rfl) (by kernel_rfl) (fun h=>by obtain ⟨_,_,h⟩:=h; exact h) (by kernel_rfl) ?_
   repeat (go_big_quiet_step (fail))
   refine wpQuiet_nil ?_;rintro _ ⟨nq,rfl⟩;have hI2:=HI.out.next (below_drews W.heap.size W nq) (by omega);have hT2:Turn w.heap.size w.heap.size W (W.drewN nq):=(Turn.refl _ _ _).drewN nq;have hs2:w.heap.size+10≤(W.drewN nq).heap.size:=hsW;generalize W.drewN nq=W0 at hI2 hT2 hs2 ⊢;clear g0 g3 c0 e0;gi_wp2
   exact ⟨KeepsFrom.turn hT2 (by omega),CellsKept.turn hT2,hI2,hs2,fun y hy=>by
    rcases List.mem_append.1 hy with hy | hy
    ·exact HTW.out y hy
    ·rw [List.mem_singleton] at hy; rw [hy]; exact HNT.out⟩
end
section
open Go.RowKit Go.Shelf
def S.visitStep (p:Prg) (s:S) (n f:Nat) (a:List Nat × BS) (k:Nat):List Nat × BS:=
 if (s.get (.at_ f k)).1 then (if (p.ins f k).op=15 then S.visit p s n (a.1,a.2 ||| (s.get (.at_ f k)).2) (p.ins f k).b.toNat else (a.1,a.2 ||| (s.get (.at_ f k)).2)) else a
theorem S.visit_succ (p:Prg) (s:S) (n:Nat) (a:List Nat × BS) (f:Nat):s.visit p (n+1) a f=if f∈a.1 then a else (List.range (p.len f)).foldl (s.visitStep p n f) (f::a.1,a.2):=by rw [S.visit]; rfl
def S.visitTo (p:Prg) (s:S) (n f:Nat) (a:List Nat × BS) (j:Nat):List Nat × BS:=(List.range j).foldl (s.visitStep p n f) a
theorem S.visitTo_succ (p:Prg) (s:S) (n f:Nat) (a:List Nat × BS) (j:Nat):s.visitTo p n f a (j+1)=s.visitStep p n f (s.visitTo p n f a j) j:=by
 unfold S.visitTo; rw [List.range_succ,List.foldl_append]; rfl
theorem unseen_mono (n:Nat) {a b:List Nat} (h:∀ x∈a,x∈b):unseen n b≤unseen n a:=by
 unfold unseen
 induction List.range n with
 | nil=>exact Nat.le_refl _
 | cons y r ih=>
  rw [List.filter_cons,List.filter_cons];by_cases hb:y∈b
  ·have e1:decide (y∉b)=false:=by simpa using hb
   rw [e1];simp only [Bool.false_eq_true,if_false];split
   ·rw [List.length_cons]; omega
   ·exact ih
  ·have ha:y∉a:=fun e=>hb (h y e)
   have e1:decide (y∉b)=true:=by simpa using hb
   have e2:decide (y∉a)=true:=by simpa using ha
   rw [e1,e2];simp only [if_true,List.length_cons]; omega
theorem S.foldl_sub {step:List Nat × BS→Nat→List Nat × BS} (h:∀ a k x,x∈a.1→x∈(step a k).1):∀ (l:List Nat) (a:List Nat × BS) (x:Nat),x∈a.1→x∈(l.foldl step a).1
 | [],_,_,hx=>hx
 | k::r,a,x,hx=>S.foldl_sub h r (step a k) x (h a k x hx)
theorem S.visit_sub (p:Prg) (s:S):∀ (n:Nat) (a:List Nat × BS) (f x:Nat),x∈a.1→x∈(s.visit p n a f).1
 | 0,_,_,_,h=>h
 | n+1,a,f,x,h=>by
  rw [S.visit_succ];split
  ·exact h
  ·refine S.foldl_sub (fun a k x hx=>?_) _ _ x (by simp [h])
   unfold S.visitStep;split
   ·split
    ·exact S.visit_sub p s n _ _ x hx
    ·exact hx
   ·exact hx
theorem S.visitTo_sub (p:Prg) (s:S) (n f:Nat) (a:List Nat × BS) (j:Nat) (x:Nat) (h:x∈a.1):x∈(s.visitTo p n f a j).1:=by
 refine S.foldl_sub (fun a k x hx=>?_) _ _ x h;unfold S.visitStep;split
 ·split
  ·exact S.visit_sub p s n _ _ x hx
  ·exact hx
 ·exact hx
def visitVal (c:Nat):Value:=.func (.func 129) #[] #[.pointer (some ⟨c+2,0,none⟩),.pointer (some ⟨c,0,none⟩),.pointer (some ⟨c+3,0,none⟩),.pointer (some ⟨c+4,0,none⟩)]
structure WiI (p:Prg) (L:Lay) (s:S) (c:Nat) (a:List Nat × BS) (W:World):Prop where
 mem:Mem p L W s
 pb:Bx W c [.pointer (some ⟨L.A,0,none⟩)]
 row:W.rowIs (c+1) 4 p.funs.length (seenF a.1)
 sb:Bx W (c+2) [.slice (some ⟨c+1,0,none⟩) p.funs.length p.funs.length]
 ob:Boxed W (c+3) 84 (sv a.2)
 vb:Boxed W (c+4) 114 (visitVal c)
 hc:L.hi≤c
 size:c+5≤W.heap.size
theorem WiI.below {p:Prg} {L:Lay} {s:S} {c:Nat} {a:List Nat × BS} {W W':World} (h:WiI p L s c a W) (hb:Below W.heap.size W W'):WiI p L s c a W':=by
 have:=h.size;have:=hb.size;exact ⟨h.mem.below hb,h.pb.below hb (by omega),h.row.of_block (hb.block _ (by omega)),h.sb.below hb (by omega),(hb.block _ (by omega)).trans h.ob,(hb.block _ (by omega)).trans h.vb,h.hc,by omega⟩
theorem WiI.mark {p:Prg} {L:Lay} {s:S} {c:Nat} {a:List Nat × BS} {W:World} (h:WiI p L s c a W) (f:Nat):WiI p L s c (f::a.1,a.2) (W.setCell ⟨c+1,f,none⟩ (.bool true)):=by
 have hc:=h.hc;have hh:=h.mem.hi;have hk:∀ (g:Nat) (cs:List Value),g≠c+1→Bx W g cs→Bx (W.setCell ⟨c+1,f,none⟩ (.bool true)) g cs:=fun g cs hg hb j v hv=>(World.cell?_setCell_far _ _ _ _ (by show c+1≠g; omega)).trans (hb j v hv)
 refine ⟨?_,hk _ _ (by omega) h.pb,(h.row.set f (.bool true)).congr (fun i _=>?_),hk _ _ (by omega) h.sb,(heap_setCell_other _ _ _ _ (by show c+3≠c+1; omega)).trans h.ob,(heap_setCell_other _ _ _ _ (by show c+4≠c+1; omega)).trans h.vb,hc,by simpa using h.size⟩
 ·exact (h.mem.below' ((Below.refl L.hi W).setCell (p:=⟨c+1,f,none⟩) (by show L.hi≤c+1; omega) _))
 ·by_cases e:i=f
  ·subst e; simp [seenF]
  ·simp [seenF,e]
theorem WiI.setOut {p:Prg} {L:Lay} {s:S} {c:Nat} {a:List Nat × BS} {W:World} (h:WiI p L s c a W) (o:BS):WiI p L s c (a.1,o) (W.setCell ⟨c+3,0,none⟩ (sv o)):=by
 have hc:=h.hc;have hk:∀ (g:Nat) (cs:List Value),g≠c+3→Bx W g cs→Bx (W.setCell ⟨c+3,0,none⟩ (sv o)) g cs:=fun g cs hg hb j v hv=>(World.cell?_setCell_far _ _ _ _ (by show c+3≠g; omega)).trans (hb j v hv)
 exact ⟨h.mem.below' ((Below.refl L.hi W).setCell (p:=⟨c+3,0,none⟩) (by show L.hi≤c+3; omega) _),hk _ _ (by omega) h.pb,h.row.setOther (by show c+1≠c+3; omega) _,hk _ _ (by omega) h.sb,Boxed.set _ h.ob,(heap_setCell_other _ _ _ _ (by show c+4≠c+3; omega)).trans h.vb,hc,by simpa using h.size⟩
theorem visit_any (p:Prg) (hWf:Wf p) (L:Lay) (s:S) (c:Nat):∀ (n:Nat) (a:List Nat × BS) (f:Nat) (W:World),f<p.funs.length→unseen p.funs.length a.1<n→WiI p L s c a W →
  Calls Tryz.prog 129 #[.int .i64 f,.pointer (some ⟨c+2,0,none⟩),.pointer (some ⟨c,0,none⟩),.pointer (some ⟨c+3,0,none⟩),.pointer (some ⟨c+4,0,none⟩)] W fun e W'=>e=.returned (.tuple #[])∧WiI p L s c (s.visit p n a f) W'∧Turn c (c+5) W W':=by
 intro n
 induction n with
 | zero=>intro a f W hf hu; omega
 | succ n ih=>
  intro a f W hf hu h;have HIH:=hid ih;clear ih;have f0:=zi f;have f1:(f:Int)<(p.funs.length:Int):=by omega
  have s0:=h.sb 0 _ rfl;have r0:=h.row.cell hf;have r1:=h.row.frozen f;by_cases hs:f∈a.1
  ·have HV:=hid (show s.visit p (n+1) a f=a from by rw [S.visit_succ,if_pos hs])
   have hsf:seenF a.1 f=.bool true:=by simp [seenF,hs]
   rw [hsf] at r0;clear hs hsf;go_enter Tryz.func129,Tryz.ntmps129;go_wp2_with fail;refine bodyPost_ret (results_none rfl _ _ _) rfl ?_;exact ⟨rfl,by rw [HV.out]; exact h,Turn.refl _ _ _⟩
  ·have hsf:seenF a.1 f=.bool false:=by simp [seenF,hs]
   rw [hsf] at r0;have HUN:=hid (show unseen p.funs.length (f::a.1)<n from by have:=unseen_lt hf hs; omega);have HV:=hid (show s.visit p (n+1) a f=s.visitTo p n f (f::a.1,a.2) (p.len f) from by rw [S.visit_succ,if_neg hs]; rfl);clear hs hsf hu;have HMK:=hid (h.mark f);have HT1:=hid ((Turn.refl c (c+5) W).setCell (a:=⟨c+1,f,none⟩) ⟨by show c≤c+1; omega,by show c+1<c+5; omega⟩ (.bool true));go_enter Tryz.func129,Tryz.ntmps129;go_upto_region 2 with fail;have h1:=HMK.out;have t1:=HT1.out;clear HMK HT1 h s0 r0 r1;generalize W.setCell ⟨c+1,f,none⟩ (.bool true)=W1 at h1 t1 ⊢;have p0:=h1.pb 0 _ rfl;have c0:=h1.mem.c0;have hhc:=h1.hc;have hhi:=h1.mem.hi;have hM:=hWf.len f hf;by_cases hM0:p.len f=0
   ·obtain ⟨b,off,hA,hb,-,d5⟩:=h1.mem.prog.codeAt hf
    rw [hM0] at d5;rw [hA] at c0;rw [hM0] at HV;clear hA hM hM0;go_wp2_with fail;go_loopw [25] (fun i wr=>i=.int .i64 0∧WiI p L s c (s.visitTo p n f (f::a.1,a.2) 0) wr∧Turn c (c+5) W wr) (fun i _=>0)
    case atStart=>exact ⟨rfl,h1,t1⟩
    case round=>
     obtain ⟨rfl,hm,ht⟩:=hrel;go_wp2_with fail;go_end0;exact ⟨rfl,by rw [HV.out]; exact hm,ht⟩
   ·obtain ⟨b,off,b2,off2,hA,hb,hb2,-,d5,-⟩:=h1.mem.prog.at_ hf (show 0<p.len f by omega)
    have HAT:=hid (fun (W':World) (hm:Turn c (c+5) W1 W') (k:Nat) (hk:k<p.len f)=>code_at (lo:=c) (hi:=c+5) (h1.mem.prog.more (by omega)) ⟨by omega,h1.size⟩ hA (by omega) d5 hf hk hm);rw [hA] at c0;clear hM0 hA;go_wp2_with fail;go_loopw [25] (fun i wr=>∃ j:Nat,i=.int .i64 j∧j≤p.len f∧WiI p L s c (s.visitTo p n f (f::a.1,a.2) j) wr∧Turn c (c+5) W1 wr) (fun i _=>p.len f - (intOf i).toNat)
    case atStart=>exact ⟨0,rfl,by omega,h1,Turn.refl _ _ _⟩
    case round=>
     obtain ⟨j,rfl,hj,hm,ht⟩:=hrel;clear c0 d5 p0 h1;have hj0:=zi j;have hwr1:=Wi j (by omega);by_cases hlt:j<p.len f
     ·have hd1:=Dt (show (j:Int)<p.len f by omega)
      have hd2:=Dt hlt;have hjl:(j:Int)<(p.len f:Int):=by omega
      obtain ⟨q0,q1,q2,q3,q4⟩:=HAT.out wr ht j hlt;have hIb:=(hWf.ins f j hf hlt).call;have HSU:=hid (S.visitTo_succ p s n f (f::a.1,a.2) j);have HUN2:=hid (show unseen p.funs.length (s.visitTo p n f (f::a.1,a.2) j).1<n from Nat.lt_of_le_of_lt (unseen_mono _ (fun x hx=>S.visitTo_sub p s n f _ j x hx)) HUN.out);generalize s.visitTo p n f (f::a.1,a.2) j=aj at hm HSU HUN2;go_upto_region 5 with fail;have hb5:=below_alloc wr (.cells #[.int .i64 (p.ins f j).op,.int .i64 (p.ins f j).a,.int .i64 (p.ins f j).b,.int .i64 (p.ins f j).c,.slice (p.ins f j).argA (p.ins f j).args.length (p.ins f j).argC] 63);have hx:=bx_new wr #[.int .i64 (p.ins f j).op,.int .i64 (p.ins f j).a,.int .i64 (p.ins f j).b,.int .i64 (p.ins f j).c,.slice (p.ins f j).argA (p.ins f j).args.length (p.ins f j).argC] 63
      have hzz:wr.heap.size<(World.alloc wr (.cells #[.int .i64 (p.ins f j).op,.int .i64 (p.ins f j).a,.int .i64 (p.ins f j).b,.int .i64 (p.ins f j).c,.slice (p.ins f j).argA (p.ins f j).args.length (p.ins f j).argC] 63)).heap.size:=by simp
      have hgg:c+5≤wr.heap.size:=hm.size;have hm5:=hm.below hb5;have ht5:=ht.trans (Turn.of_below hb5);clear hm ht hb5 q0 q1 q2 q3 q4;generalize World.alloc wr _=W5 at hx hm5 ht5 hzz ⊢;generalize wr.heap.size=G at hx hzz hgg ⊢;obtain ⟨z0,-,z2,-,-⟩:=bx5 hx;have p0:=hm5.pb 0 _ rfl;have c9:=hm5.mem.c9;have cR:=hm5.mem.outR f hf;have ck:=(hm5.mem.slot (.at_ f j) ⟨hf,hlt⟩).1.1;have c10:=hm5.mem.c10;have cB:=hm5.mem.outB f hf;have cs:=(hm5.mem.slot (.at_ f j) ⟨hf,hlt⟩).2.1;have o0:=hm5.ob.cell;have o1:=hm5.ob.frozen;unfold Lay.kA at ck;unfold Lay.tA sv at cs;unfold sv at o0;dsimp only at ck cs
      cases hre:(s.get (.at_ f j)).1 with
      | false=>
       have HSV:=hid (show s.visitTo p n f (f::a.1,a.2) (j+1)=aj from by rw [HSU.out]; unfold S.visitStep; rw [hre]; rfl);rw [hre] at ck;clear hre;go_wp2_with fail;exact ⟨⟨j+1,by go_num,by omega,by rw [HSV.out]; exact hm5,ht5⟩,by simp [intOf]; omega⟩
      | true=>
       rw [hre] at ck;have HST:=hid (show s.visitTo p n f (f::a.1,a.2) (j+1)=if (p.ins f j).op=15 then S.visit p s n (aj.1,aj.2 ||| (s.get (.at_ f j)).2) (p.ins f j).b.toNat else (aj.1,aj.2 ||| (s.get (.at_ f j)).2) from by rw [HSU.out]; unfold S.visitStep; rw [hre]; rfl);have HOR:=hid (or_sv aj.2 (s.get (.at_ f j)).2);generalize (s.get (.at_ f j)).2=t at cs HST HOR;clear hre HSU;go_upto_region 6 with fail;go_still_tail 12,(by kernel_rfl)
       change wpList _ _ _ _ _ W5.drew;go_upto_region 7 with fail;simp only [HOR.out];have hm6:=(hm5.setOut (aj.2 ||| t)).below (below_drews _ _ 1);have ht6:=(ht5.setCell (a:=⟨c+3,0,none⟩) ⟨by show c≤c+3; omega,by show c+3<c+5; omega⟩ (sv (aj.2 ||| t))).drewN 1;have hx6:Bx ((W5.setCell ⟨c+3,0,none⟩ (sv (aj.2 ||| t))).drewN 1) G [.int .i64 (p.ins f j).op,.int .i64 (p.ins f j).a,.int .i64 (p.ins f j).b,.int .i64 (p.ins f j).c,.slice (p.ins f j).argA (p.ins f j).args.length (p.ins f j).argC]:=fun q v hv=>(World.cell?_setCell_far _ _ _ _ (by show c+3≠G; omega)).trans (hx q v hv)
       have hz6:G<((W5.setCell ⟨c+3,0,none⟩ (sv (aj.2 ||| t))).drewN 1).heap.size:=by simpa using hzz
       change WiI p L s c _ (W5.setCell ⟨c+3,0,none⟩ (.int .u32 ((aj.2 ||| t).toNat:Int))).drew at hm6;change Turn _ _ _ (W5.setCell ⟨c+3,0,none⟩ (.int .u32 ((aj.2 ||| t).toNat:Int))).drew at ht6;change Bx (W5.setCell ⟨c+3,0,none⟩ (.int .u32 ((aj.2 ||| t).toNat:Int))).drew _ _ at hx6;change G<(W5.setCell ⟨c+3,0,none⟩ (.int .u32 ((aj.2 ||| t).toNat:Int))).drew.heap.size at hz6;clear hm5 ht5 hx hzz z0 z2 p0 c9 cR ck c10 cB cs o0 o1 HOR;generalize (W5.setCell ⟨c+3,0,none⟩ (.int .u32 ((aj.2 ||| t).toNat:Int))).drew=W6 at hm6 ht6 hx6 hz6 ⊢;obtain ⟨z0,-,z2,-,-⟩:=bx5 hx6;by_cases h15:(p.ins f j).op=15
       ·have HSV:=hid (show s.visitTo p n f (f::a.1,a.2) (j+1)=S.visit p s n (aj.1,aj.2 ||| t) (p.ins f j).b.toNat from by rw [HST.out,if_pos h15])
        obtain ⟨hb0,hb1⟩:=hIb (.inl h15);obtain ⟨b9,hb9⟩:∃ b9:Nat,(p.ins f j).b=b9:=⟨(p.ins f j).b.toNat,by omega⟩
        rw [hb9,Int.toNat_natCast] at HSV;have hcall:=HIH.out (aj.1,aj.2 ||| t) b9 W6 (by omega) HUN2.out hm6;rw [hb9] at z2;rw [h15] at z0;have v0:=hm6.vb.cell;unfold visitVal at v0;have HCALL:=hid hcall;clear hcall h15 hb0 hb1 hb9 hIb;go_wp2_with fail;refine (HCALL.out).mono ?_;rintro e W8 ⟨rfl,hm8,ht8⟩;have ht9:=ht6.trans ht8;clear z0 z2 v0 hm6 hx6 hz6 ht6 ht8;go_wp2_with fail;exact ⟨⟨j+1,by go_num,by omega,by rw [HSV.out]; exact hm8,ht9⟩,by simp [intOf]; omega⟩
       ·have HSV:=hid (show s.visitTo p n f (f::a.1,a.2) (j+1)=(aj.1,aj.2 ||| t) from by rw [HST.out,if_neg h15])
        have e15:((p.ins f j).op == 15)=false:=by simpa using h15
        clear h15;go_wp2_with fail;exact ⟨⟨j+1,by go_num,by omega,by rw [HSV.out]; exact hm6,ht6⟩,by simp [intOf]; omega⟩
     ·have hd1:=Df (show ¬ (j:Int)<p.len f by omega)
      have hd2:=Df hlt;obtain rfl:j=p.len f:=by omega
      clear hlt hj;go_wp2_with fail;go_end0;exact ⟨rfl,by rw [HV.out]; exact hm,t1.trans ht⟩
def wiWorld (p:Prg) (c:Nat) (w1:World):World:=
 (((w1.alloc (.cells (madeCells #[Value.bool false] p.funs.length) 4)).alloc (.cells #[.slice (some ⟨c+1,0,none⟩) p.funs.length p.funs.length] 82)).alloc (.cells #[.int .u32 0] 84)).alloc (.cells #[visitVal c] 114)
theorem wi_new {p:Prg} {L:Lay} {s:S} {c:Nat} {w1:World} (h:Mem p L w1 s) (hp:Bx w1 c [.pointer (some ⟨L.A,0,none⟩)]) (hz:w1.heap.size=c+1) (hc:L.hi≤c):WiI p L s c ([],0) (wiWorld p c w1)∧Below w1.heap.size w1 (wiWorld p c w1):=by
 have e1:=World.rowIs_made w1 (.bool false) p.funs.length 4;have b1:=below_alloc w1 (.cells (madeCells #[Value.bool false] p.funs.length) 4);have z1:(w1.alloc (.cells (madeCells #[Value.bool false] p.funs.length) 4)).heap.size=c+2:=by simp [hz]
 rw [hz] at e1;unfold wiWorld;generalize w1.alloc _=w2 at e1 b1 z1 ⊢;have e2:=bx_new w2 #[.slice (some ⟨c+1,0,none⟩) p.funs.length p.funs.length] 82;have b2:=below_alloc w2 (.cells #[.slice (some ⟨c+1,0,none⟩) p.funs.length p.funs.length] 82);have z2:(w2.alloc (.cells #[.slice (some ⟨c+1,0,none⟩) p.funs.length p.funs.length] 82)).heap.size=c+3:=by simp [z1]
 rw [z1] at e2;generalize w2.alloc _=w3 at e2 b2 z2 ⊢;have e3:=Boxed.new w3 84 (.int .u32 0);have b3:=below_alloc w3 (.cells #[.int .u32 0] 84);have z3:(w3.alloc (.cells #[.int .u32 0] 84)).heap.size=c+4:=by simp [z2]
 rw [z2] at e3;generalize w3.alloc _=w4 at e3 b3 z3 ⊢;have e4:=Boxed.new w4 114 (visitVal c);have b4:=below_alloc w4 (.cells #[visitVal c] 114);have z4:(w4.alloc (.cells #[visitVal c] 114)).heap.size=c+5:=by simp [z3]
 rw [z3] at e4;generalize w4.alloc _=w5 at e4 b4 z4 ⊢;have B:=((b1.trans (b2.mono b1.size)).trans (b3.mono (by omega))).trans (b4.mono (by omega));have B2:Below (c+2) w2 w5:=((b2.mono (by omega)).trans (b3.mono (by omega))).trans (b4.mono (by omega));have B3:Below (c+3) w3 w5:=(b3.mono (by omega)).trans (b4.mono (by omega));refine ⟨⟨h.below B,hp.below B (by omega),(e1.of_block (B2.block _ (by omega))).congr (fun i _=>rfl),e2.below B3 (by omega),?_,e4,hc,by omega⟩,B⟩;exact (b4.block _ (by omega)).trans e3
theorem withinL_any (p:Prg) (hWf:Wf p) (L:Lay) (s:S) (f:Nat) (hf:f<p.funs.length) (w:World) (h:Mem p L w s) :
  Calls Tryz.prog 112 #[.pointer (some ⟨L.A,0,none⟩),.int .i64 f] w (Ret (sv (s.within p f)) w):=by
 have HV:=hid (fun (a:List Nat × BS) (W:World) (hu:unseen p.funs.length a.1<p.funs.length+1)=>visit_any p hWf L s w.heap.size (p.funs.length+1) a f W hf hu);have hmk:=fun W=>run_make_row' (P:=Tryz.prog) 82 4 (.bool false) 1 Tryz.underlying82 (by kernel_rfl) rfl .i64 .i64 p.funs.length (by have:=hWf.funs; omega) (by have:=hWf.funs; omega) W
 have hT:=one_new w #[.pointer (some ⟨L.A,0,none⟩)] 76;have HM:=hid h;have hAz:L.A<w.heap.size:=Nat.lt_of_lt_of_le (h.ok.rng L.A (by simp)).2 h.hi.2;have c0:=h.c0;clear h;unfold S.within;go_enter Tryz.func112,Tryz.ntmps112;go_upto_region 1 with fail;have hm1:=HM.out.below (below_alloc w (.cells #[.pointer (some ⟨L.A,0,none⟩)] 76));have hz1:(w.alloc (.cells #[.pointer (some ⟨L.A,0,none⟩)] 76)).heap.size=w.heap.size+1:=by simp
 generalize w.alloc _=w1 at hT hm1 hz1 ⊢;clear c0;have c0:=hm1.c0;have p0:=hT.fst 0 _ rfl;have HN:=hid (wi_new hm1 hT.fst hz1 HM.out.hi.2);have HBW:=hid hT.below;clear hT;go_upto_region 5 with fail;simp only [Nat.add_assoc,Nat.reduceAdd];change Code.wp _ _ _ _ (wiWorld p w.heap.size w1);obtain ⟨hi,hb⟩:=HN.out;generalize wiWorld p w.heap.size w1=w5 at hi hb ⊢;clear c0 p0 hmk hm1;have v0:=hi.vb.cell;unfold visitVal at v0;go_wp2_with fail;refine (HV.out ([],0) w5 (by have:=unseen_le p.funs.length []; show unseen p.funs.length []<_; omega) hi).mono ?_;rintro e w6 ⟨rfl,hi6,ht6⟩;clear v0 hi;have o0:=hi6.ob.cell;unfold sv at o0;go_wp2_with fail;go_ret;refine ⟨rfl,?_⟩;exact HBW.out.trans ((hb.mono (by have:=HBW.out.size; omega)).trans (ht6.below (by have:=hb.size; omega)))
end
end Go.Proofs.YtkpjdanfpolimaaGreat
