/- Boxes behind the heap's old end; which blocks have turned. Conditions: none. -/
import Derived.Test.YtedpopbaipnamaaGreatDoorPoBase
import Derived.Deep.RegionHeld
import Derived.Deep.QuietTactic
import Derived.BigQuiet
import Derived.Deep.Cut
import Derived.Carry
import Derived.RangeFuncRecord
import Derived.MapKept
import Derived.Laws.EntriesVeiled
namespace Go.Proofs.YtedpopbaipnamaaGreatDoor
open Go.RowKit
def Bx (W:World) (g:Nat) (cs:List Value):Prop:=∀ j v,cs[j]? = some v→W.cell? ⟨g,j,none⟩=some v
theorem Bx.below {W W':World} {g B:Nat} {cs:List Value} (h:Bx W g cs) (hb:Below B W W') (hg:g<B):Bx W' g cs:=fun j v hv=>(hb.cell (p:=⟨g,j,none⟩) hg).trans (h j v hv)
theorem bx_new (W:World) (cs:Array Value) (t:Nat):Bx (W.alloc (.cells cs t)) W.heap.size cs.toList:=fun j v hv=>by
 rw [cell_of_row _ W.heap.size j cs t (0,0) (heap_alloc_new W _)]; simpa using hv
theorem Bx.alloc {W:World} {g:Nat} {cs:List Value} (h:Bx W g cs) (hg:g<W.heap.size) (o:Obj):Bx (W.alloc o) g cs:=fun j v hv=>(World.cell?_alloc_lt W o ⟨g,j,none⟩ hg).trans (h j v hv)
structure Two (w W:World) (a b:List Value):Prop where
 fst:Bx W w.heap.size a
 snd:Bx W (w.heap.size+1) b
 below:Below w.heap.size w W
 size:w.heap.size+2≤W.heap.size
theorem Two.next {w W W':World} {a b:List Value} (h:Two w W a b) (hb:Below W.heap.size W W'):Two w W' a b:=
 ⟨h.fst.below hb (by have:=h.size; omega),h.snd.below hb (by have:=h.size; omega),h.below.trans (hb.mono h.below.size),by have:=h.size; have:=hb.size; omega⟩
theorem two_new (w:World) (a b:Array Value) (s t:Nat):Two w ((w.alloc (.cells a s)).alloc (.cells b t)) a.toList b.toList:=by
 refine ⟨(bx_new w a s).alloc (by simp) _,?_,(below_alloc _ _).trans (below_alloc2 (by simp) _),by simp⟩
 have:=bx_new (w.alloc (.cells a s)) b t
 rwa [show (w.alloc (.cells a s)).heap.size=w.heap.size+1 from by simp] at this
theorem bx3 {W:World} {g:Nat} {a b c:Value} (h:Bx W g [a,b,c]):W.cell? ⟨g,0,none⟩=some a∧W.cell? ⟨g,1,none⟩=some b∧W.cell? ⟨g,2,none⟩=some c:=⟨h 0 _ rfl,h 1 _ rfl,h 2 _ rfl⟩
theorem bx4 {W:World} {g:Nat} {a b c d:Value} (h:Bx W g [a,b,c,d]):W.cell? ⟨g,0,none⟩=some a∧W.cell? ⟨g,1,none⟩=some b∧W.cell? ⟨g,2,none⟩=some c∧W.cell? ⟨g,3,none⟩=some d:=⟨h 0 _ rfl,h 1 _ rfl,h 2 _ rfl,h 3 _ rfl⟩
theorem below_drews (B:Nat) (w:World) (n:Nat):Below B w (w.drewN n):=⟨rfl,rfl,rfl,Nat.le_refl _,fun _ _=>rfl⟩
structure One (w W:World) (a:List Value):Prop where
 fst:Bx W w.heap.size a
 below:Below w.heap.size w W
 size:w.heap.size+1≤W.heap.size
theorem One.next {w W W':World} {a:List Value} (h:One w W a) (hb:Below W.heap.size W W'):One w W' a:=
 ⟨h.fst.below hb (by have:=h.size; omega),h.below.trans (hb.mono h.below.size),by have:=h.size; have:=hb.size; omega⟩
theorem one_new (w:World) (a:Array Value) (s:Nat):One w (w.alloc (.cells a s)) a.toList:=⟨bx_new w a s,below_alloc _ _,by simp⟩
structure Three (w W:World) (a b c:List Value):Prop where
 two:Two w W a b
 thd:Bx W (w.heap.size+2) c
 size:w.heap.size+3≤W.heap.size
theorem Three.next {w W W':World} {a b c:List Value} (h:Three w W a b c) (hb:Below W.heap.size W W'):Three w W' a b c:=
 ⟨h.two.next hb,h.thd.below hb (by have:=h.size; omega),by have:=h.size; have:=hb.size; omega⟩
theorem three_new (w:World) (a b c:Array Value) (s t u:Nat):Three w (((w.alloc (.cells a s)).alloc (.cells b t)).alloc (.cells c u)) a.toList b.toList c.toList:=by
 have hT:=two_new w a b s t
 refine ⟨hT.next (below_alloc _ _),?_,by simp⟩
 have:=bx_new ((w.alloc (.cells a s)).alloc (.cells b t)) c u
 rwa [show ((w.alloc (.cells a s)).alloc (.cells b t)).heap.size=w.heap.size+2 from by simp] at this
theorem bx5 {W:World} {g:Nat} {a b c d e:Value} (hb:Bx W g [a,b,c,d,e]):W.cell? ⟨g,0,none⟩=some a∧W.cell? ⟨g,1,none⟩=some b∧W.cell? ⟨g,2,none⟩=some c∧W.cell? ⟨g,3,none⟩=some d∧W.cell? ⟨g,4,none⟩=some e:=⟨hb 0 _ rfl,hb 1 _ rfl,hb 2 _ rfl,hb 3 _ rfl,hb 4 _ rfl⟩
theorem bx2 {W:World} {g:Nat} {a b:Value} (h:Bx W g [a,b]):W.cell? ⟨g,0,none⟩=some a∧W.cell? ⟨g,1,none⟩=some b:=⟨h 0 _ rfl,h 1 _ rfl⟩
structure Turn (lo hi:Nat) (w W:World):Prop where
 os:W.os=w.os
 tape:W.tape=w.tape
 output:W.output=w.output
 size:w.heap.size≤W.heap.size
 block:∀ k,k<w.heap.size→(k<lo∨hi≤k)→W.heap[k]? = w.heap[k]?
theorem Turn.refl (lo hi:Nat) (w:World):Turn lo hi w w:=⟨rfl,rfl,rfl,Nat.le_refl _,fun _ _ _=>rfl⟩
theorem Turn.trans {lo hi:Nat} {a b c:World} (h1:Turn lo hi a b) (h2:Turn lo hi b c):Turn lo hi a c:=
 ⟨h2.os.trans h1.os,h2.tape.trans h1.tape,h2.output.trans h1.output,Nat.le_trans h1.size h2.size,fun k hk hr=>(h2.block k (Nat.lt_of_lt_of_le hk h1.size) hr).trans (h1.block k hk hr)⟩
theorem Turn.of_below {lo hi:Nat} {w W:World} (h:Below w.heap.size w W):Turn lo hi w W:=
 ⟨h.os,h.tape,h.output,h.size,fun k hk _=>h.block k hk⟩
theorem Turn.setCell {lo hi:Nat} {w W:World} (h:Turn lo hi w W) {a:Addr} (ha:lo≤a.block∧a.block<hi) (v:Value):Turn lo hi w (W.setCell a v):=
 ⟨h.os,h.tape,h.output,by simpa using h.size,fun k hk hr=>(heap_setCell_other _ _ _ _ (by omega)).trans (h.block k hk hr)⟩
theorem Turn.drewN {lo hi:Nat} {w W:World} (h:Turn lo hi w W) (n:Nat):Turn lo hi w (W.drewN n):=⟨h.os,h.tape,h.output,h.size,h.block⟩
theorem Turn.below {lo hi:Nat} {w W:World} (h:Turn lo hi w W) (hl:lo≤w.heap.size):Below lo w W:=
 ⟨h.os,h.tape,h.output,h.size,fun k hk=>h.block k (by omega) (.inl hk)⟩
theorem Turn.cell {lo hi:Nat} {w W:World} (h:Turn lo hi w W) {a:Addr} {v:Value} (hc:w.cell? a=some v) (ha:a.block<lo∨hi≤a.block):W.cell? a=some v:=by
 have:=h.block a.block (block_lt_of_cell hc) ha
 simp only [World.cell?,this]
 exact hc
theorem frozen_block {w W:World} {a:Addr} (h:W.heap[a.block]? = w.heap[a.block]?):W.frozen? a=w.frozen? a:=by simp only [World.frozen?,h]
theorem Bx.turn {lo hi g:Nat} {cs:List Value} {W W':World} (h:Bx W g cs) (ht:Turn lo hi W W') (_:g<W.heap.size) (hg:hi≤g):Bx W' g cs:=fun j v hv=>ht.cell (h j v hv) (.inr hg)
theorem Turn.below2 {lo hi B:Nat} {w W W':World} (h:Turn lo hi w W) (hb:Below B W W') (hB:w.heap.size≤B):Turn lo hi w W':=
 ⟨hb.os.trans h.os,hb.tape.trans h.tape,hb.output.trans h.output,Nat.le_trans h.size hb.size,fun k hk hr=>(hb.block k (by omega)).trans (h.block k hk hr)⟩
end Go.Proofs.YtedpopbaipnamaaGreatDoor

namespace Go.Proofs.YtedpopbaipnamaaGreatDoor
open Go.RowKit
/-- The counter's cell. -/
def Cnt (W:World) (pb c:Nat):Prop:=W.cell? ⟨pb,0,none⟩=some (.int .i64 (c:Nat))∧W.frozen? ⟨pb,0,none⟩=false∧pb<W.heap.size
/-- What measure leaves. -/
def MsR (w:World) (pb c d:Nat) (e:Ex):Ending→World→Prop:=fun x W=>∃ r:Nat,x=.returned (.int .i64 (r:Nat))∧r≤101∧(c+nP e≤100→r+1=d+dP e)∧Cnt W pb (min 101 (c+nP e))∧Turn pb (pb+1) w W
set_option maxRecDepth 100000 in
set_option maxHeartbeats 3200000 in
theorem measure_any:∀ (e:Ex) (lo pb c d:Nat) (vs:List Value) (w:World),LiesE w lo vs e→lo≤pb→Cnt w pb c→c≤100→d≤c+1 →
  Calls Tryz.prog 72 #[.agg vs.toArray,.int .i64 (d:Nat),.pointer (some ⟨pb,0,none⟩)] w (MsR w pb c d e):=by
 intro e
 induction e using Ex.ind with
 | h k o n v xs ih=>
  intro lo pb c d vs w hL hlo hC hc hd
  obtain ⟨A,cap,rfl,bd,harg⟩:=hL.arg
  obtain ⟨c0,f0,hpb⟩:=hC
  have hll:xs.length≤9223372036854775807:=bd.2.2.2.2.1
  have hnP:nP (Ex.mk k o n v xs)=nPL xs+1:=by simp [nP]
  have hdP:dP (Ex.mk k o n v xs)=dPL xs+1:=by simp [dP]
  have hT0:=(Turn.of_below (lo:=pb) (hi:=pb+1) (below_alloc w (.cells #[.int .i64 k,.int .i64 o,.string n,.int .i64 v,.slice A xs.length cap] 45)))
  have hB0:=bx_new w #[.int .i64 k,.int .i64 o,.string n,.int .i64 v,.slice A xs.length cap] 45
  have hz0:(w.alloc (.cells #[.int .i64 k,.int .i64 o,.string n,.int .i64 v,.slice A xs.length cap] 45)).heap.size=w.heap.size+1:=by simp
  have c1:=(World.cell?_alloc_lt w (.cells #[.int .i64 k,.int .i64 o,.string n,.int .i64 v,.slice A xs.length cap] 45) ⟨pb,0,none⟩ hpb).trans c0
  have f1:=((below_alloc w (.cells #[.int .i64 k,.int .i64 o,.string n,.int .i64 v,.slice A xs.length cap] 45)).frozen (p:=⟨pb,0,none⟩) hpb).trans f0
  have hwr:IntKind.i64.wrap ((c:Int)+1)=(c:Int)+1:=by rw [IntKind.wrap_i64]; omega
  have HARG:=Lib.hid harg
  have HIH:=Lib.hid ih
  simp only [Ex.kind,Ex.op,Ex.name,Ex.val,Ex.args] at HARG ⊢
  clear harg ih hL bd
  unfold exC MsR
  rw [hnP,hdP]
  clear hnP hdP c0 f0
  go_enter Tryz.func72,Tryz.ntmps72
  go_upto_region 1 with fail
  generalize w.alloc _=w1 at hT0 hB0 hz0 c1 f1 ⊢
  go_upto_region 2 with fail
  have c2:(w1.setCell ⟨pb,0,none⟩ (.int .i64 ((c:Int)+1))).cell? ⟨pb,0,none⟩=some (.int .i64 ((c:Int)+1)):=World.cell?_setCell_same _ _ _ c1
  have f2:(w1.setCell ⟨pb,0,none⟩ (.int .i64 ((c:Int)+1))).frozen? ⟨pb,0,none⟩=false:=by rw [World.frozen?_setCell]; exact f1
  have hT2:=hT0.setCell (a:=⟨pb,0,none⟩) ⟨Nat.le_refl _,by show pb<pb+1; omega⟩ (.int .i64 ((c:Int)+1))
  have hB2:Bx (w1.setCell ⟨pb,0,none⟩ (.int .i64 ((c:Int)+1))) w.heap.size [.int .i64 k,.int .i64 o,.string n,.int .i64 v,.slice A xs.length cap]:=fun j u hu=>(World.cell?_setCell_far _ _ _ _ (by show pb≠w.heap.size; omega)).trans (hB0 j u hu)
  have hz2:(w1.setCell ⟨pb,0,none⟩ (.int .i64 ((c:Int)+1))).heap.size=w.heap.size+1:=by simpa using hz0
  clear c1 f1 hT0 hB0 hz0 hwr
  generalize w1.setCell _ _=w2 at c2 f2 hT2 hB2 hz2 ⊢
  obtain ⟨x0,x1,x2,x3,x4⟩:=bx5 hB2
  by_cases hcl:c=100
  ·subst hcl
   go_wp2_with fail
   go_ret
   exact ⟨d,rfl,by omega,fun h=>by have:=nP_pos (Ex.mk k o n v xs); omega,⟨by rw [show min 101 (100+(nPL xs+1))=101 by omega]; exact c2,f2,by omega⟩,hT2⟩
  have hd1:decide ((100:Int)<(c:Int)+1)=false:=decide_eq_false (by omega)
  have hd2:decide ((100:Int)<(d:Int))=false:=decide_eq_false (by omega)
  go_wp2_with fail
  clear x0 x1 x2 x3 x4 hd1
  have HB:=Lib.hid hB2
  clear hB2
  go_loopw [7,28] (fun dv i wr=>∃ j r cc:Nat,i=.int .i64 (j:Nat)∧dv=.int .i64 (r:Nat)∧j≤xs.length∧r≤101∧Hid (cc=min 101 (c+1+nPL (xs.take j)))∧Hid (c+1+nPL (xs.take j)≤100→r=d+dPL (xs.take j))∧wr.cell? ⟨pb,0,none⟩=some (.int .i64 (cc:Nat))∧wr.frozen? ⟨pb,0,none⟩=false∧Turn pb (pb+1) w wr∧w.heap.size+1≤wr.heap.size) (fun _ i _=>xs.length - (intOf i).toNat)
  case atStart=>exact ⟨0,d,c+1,rfl,rfl,Nat.zero_le _,by omega,Lib.hid (by simp [nPL]; omega),Lib.hid (fun _=>by simp [dPL]),c2,f2,hT2,by omega⟩
  case round=>
   clear c2 f2 hT2 hz2
   obtain ⟨j,r,cc,rfl,rfl,hj,hr,hcc,hrd,c3,f3,hT3,hz3⟩:=hrel
   have hj0:(0:Int)≤(j:Int):=by omega
   by_cases hlt:j<xs.length
   ·have hd1:decide ((j:Int)<(xs.length:Int))=true:=decide_eq_true (by omega)
    have hd3:decide (j<xs.length)=true:=decide_eq_true hlt
    have hwr1:IntKind.i64.wrap ((j:Int)+1)=(j:Int)+1:=by rw [IntKind.wrap_i64]; omega
    have hjl:(j:Int)<(xs.length:Int):=by omega
    obtain ⟨b,off,k1,o1,n1,v1,A1,m1,cap1,rfl,hb,hL1,y0,y1,y2,y3,y4⟩:=HARG.out j hlt
    have z0:=hT3.cell y0 (.inl (by show b<pb; omega))
    have z1:=hT3.cell y1 (.inl (by show b<pb; omega))
    have z2:=hT3.cell y2 (.inl (by show b<pb; omega))
    have z3:=hT3.cell y3 (.inl (by show b<pb; omega))
    have z4:=hT3.cell y4 (.inl (by show b<pb; omega))
    have hL3:=hL1.below' (hT3.below (by omega)) hlo
    have hO:=one_new wr #[.int .i64 k1,.int .i64 o1,.string n1,.int .i64 v1,.slice A1 m1 cap1] 45
    clear y0 y1 y2 y3 y4
    go_upto_region 8 with fail
    generalize wr.alloc _=w4 at hO ⊢
    have hpb3:pb<wr.heap.size:=by omega
    have c4:=(hO.below.cell (p:=⟨pb,0,none⟩) hpb3).trans c3
    have f4:=(hO.below.frozen (p:=⟨pb,0,none⟩) hpb3).trans f3
    have hT4:=hT3.below2 hO.below (by omega)
    have hL4:=hL3.below' hO.below (by omega)
    obtain ⟨x0,x1,x2,x3,x4⟩:=bx5 hO.fst
    have hz4:=hO.size
    clear hO hT3 hL1 hL3 c3 f3 z0 z1 z2 z3 z4 hd1 hd3 hjl
    by_cases hcl1:100<cc
    ·have e1:decide ((100:Int)<(cc:Int))=true:=decide_eq_true (by omega)
     have e2:decide (100<cc)=true:=decide_eq_true hcl1
     have HF:Hid (min 101 (c+(nPL xs+1))=cc∧¬ (c+(nPL xs+1)≤100)):=Lib.hid (by have h1:=hcc.out; have h2:=nPL_take_le xs j; exact ⟨by omega,by omega⟩)
     clear hcl1 hcc
     go_wp2_with fail
     refine bodyPost_ret (results_tmp rfl _ _ _) rfl ?_
     exact ⟨r,rfl,hr,fun h=>absurd h HF.out.2,⟨by rw [HF.out.1]; exact c4,f4,by omega⟩,hT4⟩
    ·have e1:decide ((100:Int)<(cc:Int))=false:=decide_eq_false (by omega)
     have e2:decide (100<cc)=false:=decide_eq_false hcl1
     have hcc1:cc=c+1+nPL (xs.take j):=by have:=hcc.out; omega
     have hs:=HIH.out xs[j] (List.getElem_mem _) lo pb cc (d+1) (exC k1 o1 n1 v1 A1 m1 cap1) w4 hL4 hlo ⟨c4,f4,by omega⟩ (by omega) (by omega)
     rw [Int.natCast_succ] at hs
     have HS:=Lib.hid hs
     have HT1:=Lib.hid (nP_take xs j hlt)
     have HT2:=Lib.hid (dP_take xs j hlt)
     have HR:=Lib.hid (hrd.out (by omega))
     have HCC:=Lib.hid hcc1
     have hwd:IntKind.i64.wrap ((d:Int)+1)=(d:Int)+1:=by rw [IntKind.wrap_i64]; omega
     unfold exC at HS
     clear hcc1 hcc hrd hL4 hs
     go_wp2_with fail
     refine HS.out.mono ?_
     rintro e w5 ⟨r5,rfl,hr5,hrd5,hC5,hT5⟩
     have HRD:=Lib.hid hrd5
     have HC5:=Lib.hid hC5
     have hz5:=hT5.size
     have hT6:=hT4.trans hT5
     clear hrd5 hC5 hT5 hT4 c4 f4 x0 x1 x2 x3 x4 HS
     go_wp2_with fail
     exact ⟨⟨j+1,max r r5,min 101 (cc+nP xs[j]),by go_num,by rw [show (if r<r5 then (r5:Int) else (r:Int))=((max r r5:Nat):Int) by split <;> omega],by omega,by omega,
      Lib.hid (by have:=HT1.out; have:=HCC.out; omega),Lib.hid (fun h=>by have h1:=HT1.out; have h2:=HT2.out; have h3:=HCC.out; have h4:=HRD.out (by omega); have h5:=HR.out; have h6:=dP_pos xs[j]; omega),
      HC5.out.1,HC5.out.2.1,hT6,by omega⟩,by simp [intOf]; omega⟩
   ·have hd1:decide ((j:Int)<(xs.length:Int))=false:=decide_eq_false (by omega)
    have hd3:decide (j<xs.length)=false:=decide_eq_false hlt
    have htk:xs.take j=xs:=List.take_of_length_le (by omega)
    have HF:Hid (cc=min 101 (c+(nPL xs+1))):=Lib.hid (by have:=hcc.out; rw [htk] at this; omega)
    have HG:Hid (c+(nPL xs+1)≤100→r+1=d+(dPL xs+1)):=Lib.hid (fun h=>by have:=hrd.out; rw [htk] at this; have:=this (by omega); omega)
    clear hcc hrd htk
    go_wp2_with fail
    refine bodyPost_ret (results_tmp rfl _ _ _) rfl ?_
    exact ⟨r,rfl,hr,HG.out,⟨by rw [← HF.out]; exact c3,f3,by omega⟩,hT3⟩
end Go.Proofs.YtedpopbaipnamaaGreatDoor

namespace Go.Proofs.YtedpopbaipnamaaGreatDoor
open Go.RowKit Go.Instr
/-- What the first entry with a key holds. -/
def findKV:List (Int × Value)→Int→Nat→Option (Nat × Value)
 | [],_,_=>none
 | (k,v)::r,x,i=>if x=k then some (i,v) else findKV r x (i+1)
/-- Block b is a map from numbers with those entries. -/
def MapKV (W:World) (b:Nat) (kv:List (Int × Value)):Prop:=∃ es clock,W.heap[b]? = some (.map es clock)∧es.toList.map (fun e=>(e.key,e.val))=kv.map fun x=>(Value.int .i64 x.1,x.2)
theorem findNow_kv:∀ (es:List MapEntry) (kv:List (Int × Value)) (x:Int) (i:Nat),es.map (fun e=>(e.key,e.val))=kv.map (fun x=>(Value.int .i64 x.1,x.2))→findNow (.int .i64) (.int .i64 x) es i=some (findKV kv x i)
 | [],[],_,_,_=>rfl
 | [],_::_,_,_,h=>by simp at h
 | _::_,[],_,_,h=>by simp at h
 | e::es,(k,v)::kv,x,i,h=>by
  simp only [List.map_cons,List.cons.injEq,Prod.mk.injEq] at h
  obtain ⟨⟨h1,h2⟩,h3⟩:=h
  unfold findNow findKV
  rw [h1,h2]
  by_cases hx:x=k
  ·simp [sameNow,hx]
  ·simp only [sameNow,if_true,beq_eq_false_iff_ne.2 hx,if_neg hx]
   exact findNow_kv es kv x (i+1) h3
theorem MapKV.below {W W':World} {b B:Nat} {kv:List (Int × Value)} (h:MapKV W b kv) (hb:Below B W W') (hB:b<B):MapKV W' b kv:=by
 obtain ⟨es,clock,h1,h2⟩:=h
 exact ⟨es,clock,(hb.block b hB).trans h1,h2⟩
theorem MapKV.lt {W:World} {b:Nat} {kv:List (Int × Value)} (h:MapKV W b kv):b<W.heap.size:=by
 obtain ⟨es,clock,h1,h2⟩:=h
 exact (Array.getElem?_eq_some_iff.1 h1).1
theorem MapKV.new (w:World):MapKV (w.alloc (.map #[] 0)) w.heap.size []:=⟨#[],0,World.alloc_heap_new w _,rfl⟩
theorem isMap_ops:Tryz.prog.underlying 128=some (.map 3 127):=Tryz.underlying128
/-- A look into such a map. -/
theorem MapKV.look {W:World} {b:Nat} {kv:List (Int × Value)} (h:MapKV W b kv) (x:Int) (ok:Bool):(Instr.lookup 128 (.map (some b)) (.int .i64 x) ok).run Tryz.prog W =
  .ok (match findKV kv x 0 with | some (_,v)=>if ok then .tuple #[v,.bool true] else v | none=>if ok then .tuple #[.agg #[.string ⟨#[]⟩,.int .i64 0,.int .i64 0,.int .i64 0,.nilFunc],.bool false] else .agg #[.string ⟨#[]⟩,.int .i64 0,.int .i64 0,.int .i64 0,.nilFunc]) W:=by
 obtain ⟨es,clock,h1,h2⟩:=h
 have hz:(zeroValue 127).run Tryz.prog W=.ok (.agg #[.string ⟨#[]⟩,.int .i64 0,.int .i64 0,.int .i64 0,.nilFunc]) W:=by kernel_rfl
 have hf:=findNow_kv es.toList kv x 0 h2
 have hck:(checkKey es.isEmpty 10000 3 (.int .i64 x)).run Tryz.prog W=.ok () W:=by
  exact MapKept.run_checkKey Tryz.underlying3 (by simp [MapKept.IsKey]) _ 9999
 simp only [Instr.lookup,Sem.run_bind,run_underlying isMap_ops,Result.andThen,getObj,Sem.run,h1,hck,findKey,run_underlying Tryz.underlying3,hf,Sem.run_pure]
 cases findKV kv x 0 with
 | none=>cases ok <;> simp [hz,Result.andThen]
 | some p=>obtain ⟨i,v⟩:=p; cases ok <;> simp [Sem.run_pure]
/-- A new key is put in. -/
theorem MapKV.put {W:World} {b:Nat} {kv:List (Int × Value)} (h:MapKV W b kv) (x:Int) (v:Value) (hn:findKV kv x 0=none) :
  ∃ W',(Instr.mapUpdate 128 (.map (some b)) (.int .i64 x) v).run Tryz.prog W=.ok () W'∧MapKV W' b (kv++[(x,v)])∧Turn b (b+1) W W'∧W'.heap.size=W.heap.size:=by
 obtain ⟨es,clock,h1,h2⟩:=h
 have hlt:=(Array.getElem?_eq_some_iff.1 h1).1
 have hf:=findNow_kv es.toList kv x 0 h2
 rw [hn] at hf
 have hck:(checkKey false 10000 3 (.int .i64 x)).run Tryz.prog W=.ok () W:=by
  exact MapKept.run_checkKey Tryz.underlying3 (by simp [MapKept.IsKey]) _ 9999
 refine ⟨W.putObj b (.map (es.push { key:=.int .i64 x,val:=v,born:=clock }) (clock+1)),?_,⟨_,_,World.putObj_heap_same hlt,by simp [h2]⟩,⟨rfl,rfl,rfl,by simp [World.putObj],fun k hk hr=>World.putObj_heap_other (by omega)⟩,by simp [World.putObj]⟩
 simp only [Instr.mapUpdate,Sem.run_bind,run_underlying isMap_ops,Result.andThen,getObj,Sem.run,h1,hck,findKey,run_underlying Tryz.underlying3,hf,Sem.run_pure,setObj]
 rfl
theorem upon_skip {P:Program} {o:Oper} {a:Act} {K:Act→World→Prop} {Q:Exit→Act→World→Prop} {r:Result Unit} {R:World→Prop} (h:∃ W',r=.ok () W'∧R W') (hK:∀ W',R W'→o.upon P a K Q (.ok .skip W')):o.upon P a K Q (r.andThen fun _ w'=>.ok .skip w'):=by
 obtain ⟨W',rfl,hR⟩:=h
 exact hK W' hR
/-- number and divide box their argument; truth boxes twice. -/
theorem number_any (g:Fn) (c1 c2:Array Value) (w:World):Calls Tryz.prog 110 #[.func g c1 c2] w fun e W=>e=.returned (.func (.func 146) #[] #[.pointer (some ⟨w.heap.size,0,none⟩)])∧W=w.alloc (.cells #[.func g c1 c2] 63):=by
 go_enter Tryz.func110,Tryz.ntmps110
 go_wp2_with fail
 go_ret
 exact ⟨rfl,rfl⟩
theorem divide_any (g:Fn) (c1 c2:Array Value) (w:World):Calls Tryz.prog 114 #[.func g c1 c2] w fun e W=>e=.returned (.func (.func 147) #[] #[.pointer (some ⟨w.heap.size,0,none⟩)])∧W=w.alloc (.cells #[.func g c1 c2] 63):=by
 go_enter Tryz.func114,Tryz.ntmps114
 go_wp2_with fail
 go_ret
 exact ⟨rfl,rfl⟩
theorem truth_any (g:Fn) (c1 c2:Array Value) (w:World):Calls Tryz.prog 117 #[.func g c1 c2] w fun e W=>e=.returned (.func (.func 146) #[] #[.pointer (some ⟨w.heap.size+1,0,none⟩)]) ∧
  W=(w.alloc (.cells #[.func g c1 c2] 177)).alloc (.cells #[.func (.func 148) #[] #[.pointer (some ⟨w.heap.size,0,none⟩)]] 63):=by
 go_enter Tryz.func117,Tryz.ntmps117
 go_wp2_with (go_at_call 110; refine (number_any _ _ _ _).mono ?_; rintro e w5 ⟨rfl,rfl⟩)
 go_ret
 exact ⟨rfl,rfl⟩
/-- The operators' entries; their closures' boxes lie behind block M. -/
def opsKV (M:Nat):List (Int × Value):=[(3,.agg #[.string ⟨#[43]⟩,.int .i64 4,.int .i64 1,.int .i64 1,.func (.func 146) #[] #[.pointer (some ⟨M+1,0,none⟩)]]),(4,.agg #[.string ⟨#[45]⟩,.int .i64 4,.int .i64 1,.int .i64 1,.func (.func 146) #[] #[.pointer (some ⟨M+2,0,none⟩)]]),(5,.agg #[.string ⟨#[42]⟩,.int .i64 5,.int .i64 1,.int .i64 1,.func (.func 113) #[] #[]]),(6,.agg #[.string ⟨#[47]⟩,.int .i64 5,.int .i64 1,.int .i64 1,.func (.func 147) #[] #[.pointer (some ⟨M+3,0,none⟩)]]),(7,.agg #[.string ⟨#[37]⟩,.int .i64 5,.int .i64 1,.int .i64 1,.func (.func 147) #[] #[.pointer (some ⟨M+4,0,none⟩)]]),(8,.agg #[.string ⟨#[61,61]⟩,.int .i64 3,.int .i64 0,.int .i64 2,.func (.func 146) #[] #[.pointer (some ⟨M+6,0,none⟩)]]),(9,.agg #[.string ⟨#[33,61]⟩,.int .i64 3,.int .i64 0,.int .i64 2,.func (.func 146) #[] #[.pointer (some ⟨M+8,0,none⟩)]]),(10,.agg #[.string ⟨#[60]⟩,.int .i64 3,.int .i64 1,.int .i64 2,.func (.func 146) #[] #[.pointer (some ⟨M+10,0,none⟩)]]),(11,.agg #[.string ⟨#[60,61]⟩,.int .i64 3,.int .i64 1,.int .i64 2,.func (.func 146) #[] #[.pointer (some ⟨M+12,0,none⟩)]]),(12,.agg #[.string ⟨#[62]⟩,.int .i64 3,.int .i64 1,.int .i64 2,.func (.func 146) #[] #[.pointer (some ⟨M+14,0,none⟩)]]),(13,.agg #[.string ⟨#[62,61]⟩,.int .i64 3,.int .i64 1,.int .i64 2,.func (.func 146) #[] #[.pointer (some ⟨M+16,0,none⟩)]]),(14,.agg #[.string ⟨#[38,38]⟩,.int .i64 2,.int .i64 2,.int .i64 2,.func (.func 146) #[] #[.pointer (some ⟨M+18,0,none⟩)]]),(15,.agg #[.string ⟨#[124,124]⟩,.int .i64 1,.int .i64 2,.int .i64 2,.func (.func 146) #[] #[.pointer (some ⟨M+20,0,none⟩)]])]
/-- A box of one cell. -/
def Bx1 (W:World) (b:Nat) (v:Value):Prop:=W.cell? ⟨b,0,none⟩=some v
theorem Bx1.new (w:World) (v:Value) (t:TypeId):Bx1 (w.alloc (.cells #[v] t)) w.heap.size v:=bx_new w #[v] t 0 _ rfl
theorem Bx1.below {W W':World} {b B:Nat} {v:Value} (h:Bx1 W b v) (hb:Below B W W') (hB:b<B):Bx1 W' b v:=(hb.cell (p:=⟨b,0,none⟩) hB).trans h
theorem Bx1.turn {lo hi b:Nat} {v:Value} {W W':World} (h:Bx1 W b v) (ht:Turn lo hi W W') (hb:hi≤b):Bx1 W' b v:=ht.cell h (.inr hb)
/-- The map under way: its entries, and the boxes laid behind it. -/
structure OpSt (w:World) (M:Nat) (kv:List (Int × Value)) (cs:List Value) (W:World):Prop where
 map:MapKV W M kv
 size:W.heap.size=M+1+cs.length
 below:Below M w W
 at_:∀ i v,cs[i]? = some v→Bx1 W (M+1+i) v
 lo:w.heap.size=M
theorem OpSt.box {w W:World} {M:Nat} {kv:List (Int × Value)} {cs:List Value} (h:OpSt w M kv cs W) (v:Value) (t:TypeId):OpSt w M kv (cs++[v]) (W.alloc (.cells #[v] t)):=by
 have hb:=below_alloc W (.cells #[v] t)
 have hs:=h.size
 refine ⟨h.map.below hb h.map.lt,by simp [hs]; omega,h.below.trans (hb.mono (by omega)),fun i u hu=>?_,h.lo⟩
 by_cases hi:i<cs.length
 ·rw [List.getElem?_append_left hi] at hu
  exact (h.at_ i u hu).below hb (by omega)
 ·have hi2:i=cs.length:=by
   have:=(List.getElem?_eq_some_iff.1 hu).1
   simp at this; omega
  subst hi2
  simp at hu
  subst hu
  rw [← hs]
  exact Bx1.new W v t
theorem OpSt.put {w W W':World} {M:Nat} {kv kv':List (Int × Value)} {cs:List Value} (h:OpSt w M kv cs W) (hm:MapKV W' M kv') (ht:Turn M (M+1) W W') (hz:W'.heap.size=W.heap.size):OpSt w M kv' cs W':=
 ⟨hm,hz.trans h.size,h.below.trans (ht.below (Nat.le_of_lt h.map.lt)),fun i v hv=>(h.at_ i v hv).turn ht (by omega),h.lo⟩
section
variable {w W:World} {M:Nat} {kv:List (Int × Value)} {cs:List Value}
theorem number_st (h:OpSt w M kv cs W) (g:Fn) (c1 c2:Array Value):Calls Tryz.prog 110 #[.func g c1 c2] W fun e W'=>e=.returned (.func (.func 146) #[] #[.pointer (some ⟨M+1+cs.length,0,none⟩)])∧OpSt w M kv (cs++[.func g c1 c2]) W':=
 (number_any g c1 c2 W).mono fun e W' ⟨h1,h2⟩=>by subst h2; exact ⟨by rw [h1,h.size],h.box _ _⟩
theorem divide_st (h:OpSt w M kv cs W) (g:Fn) (c1 c2:Array Value):Calls Tryz.prog 114 #[.func g c1 c2] W fun e W'=>e=.returned (.func (.func 147) #[] #[.pointer (some ⟨M+1+cs.length,0,none⟩)])∧OpSt w M kv (cs++[.func g c1 c2]) W':=
 (divide_any g c1 c2 W).mono fun e W' ⟨h1,h2⟩=>by subst h2; exact ⟨by rw [h1,h.size],h.box _ _⟩
theorem truth_st (h:OpSt w M kv cs W) (g:Fn) (c1 c2:Array Value):Calls Tryz.prog 117 #[.func g c1 c2] W fun e W'=>e=.returned (.func (.func 146) #[] #[.pointer (some ⟨M+1+(cs.length+1),0,none⟩)]) ∧
  OpSt w M kv (cs++[.func g c1 c2]++[.func (.func 148) #[] #[.pointer (some ⟨M+1+cs.length,0,none⟩)]]) W':=
 (truth_any g c1 c2 W).mono fun e W' ⟨h1,h2⟩=>by
  subst h2
  have h3:=(h.box (.func g c1 c2) 177).box (.func (.func 148) #[] #[.pointer (some ⟨W.heap.size,0,none⟩)]) 63
  rw [h.size] at h1 h3
  exact ⟨h1,by rw [h.size]; exact h3⟩
end
/-- The boxes, in order. -/
def opsCs (M:Nat):List Value:=[.func (.func 111) #[] #[],.func (.func 112) #[] #[],.func (.func 115) #[] #[],.func (.func 116) #[] #[],.func (.func 118) #[] #[],.func (.func 148) #[] #[.pointer (some ⟨M+5,0,none⟩)],.func (.func 119) #[] #[],.func (.func 148) #[] #[.pointer (some ⟨M+7,0,none⟩)],.func (.func 120) #[] #[],.func (.func 148) #[] #[.pointer (some ⟨M+9,0,none⟩)],.func (.func 121) #[] #[],.func (.func 148) #[] #[.pointer (some ⟨M+11,0,none⟩)],.func (.func 122) #[] #[],.func (.func 148) #[] #[.pointer (some ⟨M+13,0,none⟩)],.func (.func 123) #[] #[],.func (.func 148) #[] #[.pointer (some ⟨M+15,0,none⟩)],.func (.func 124) #[] #[],.func (.func 148) #[] #[.pointer (some ⟨M+17,0,none⟩)],.func (.func 125) #[] #[],.func (.func 148) #[] #[.pointer (some ⟨M+19,0,none⟩)]]
set_option maxRecDepth 100000 in
set_option maxHeartbeats 6400000 in
theorem operators_any (w:World):Calls Tryz.prog 77 #[] w fun e W=>e=.returned (.map (some w.heap.size))∧OpSt w w.heap.size (opsKV w.heap.size) (opsCs w.heap.size) W:=by
 obtain ⟨M,hM⟩:∃ M,M=w.heap.size:=⟨_,rfl⟩
 have HM:=Lib.hid hM
 rw [← hM]
 have hS:OpSt w M [] [] (w.alloc (.map #[] 0)):=⟨by rw [hM]; exact MapKV.new w,by simp [hM],by rw [hM]; exact below_alloc w _,fun i v hv=>by simp at hv,hM.symm⟩
 have hw:w.heap.size=M:=hM.symm
 have hmm:=@run_makeMap Tryz.prog
 clear hM
 go_enter Tryz.func77,Tryz.ntmps77
 iterate 13
  go_wp2_with (first
   | (go_at_call 110; refine (number_st hS _ _ _).mono ?_; clear hS; rintro e W5 ⟨rfl,hS⟩)
   | (go_at_call 114; refine (divide_st hS _ _ _).mono ?_; clear hS; rintro e W5 ⟨rfl,hS⟩)
   | (go_at_call 117; refine (truth_st hS _ _ _).mono ?_; clear hS; rintro e W5 ⟨rfl,hS⟩))
  refine upon_skip (hS.map.put _ _ (by rfl)) ?_
  rintro W6 ⟨hm5,ht5,hz5⟩
  replace hS:=hS.put hm5 ht5 hz5
  clear hm5 ht5 hz5
 go_wp2_with fail
 go_ret
 exact ⟨rfl,hS⟩
/-- Whether a number is that of an operator with two arguments. -/
def knownB (o:Int):Bool:=decide (3≤o) && decide (o≤15)
theorem known_cases {o:Int} (h:knownB o=true):o=3∨o=4∨o=5∨o=6∨o=7∨o=8∨o=9∨o=10∨o=11∨o=12∨o=13∨o=14∨o=15:=by
 unfold knownB at h
 simp only [Bool.and_eq_true,decide_eq_true_eq] at h
 omega
theorem find_none {M:Nat} {o:Int} (h:knownB o=false):findKV (opsKV M) o 0=none:=by
 have hno:¬ (3≤o∧o≤15):=by
  intro ⟨h1,h2⟩
  unfold knownB at h
  rw [decide_eq_true h1,decide_eq_true h2] at h; cases h
 simp only [opsKV,findKV]
 rw [if_neg (by omega),if_neg (by omega),if_neg (by omega),if_neg (by omega),if_neg (by omega),if_neg (by omega),if_neg (by omega),if_neg (by omega),if_neg (by omega),if_neg (by omega),if_neg (by omega),if_neg (by omega),if_neg (by omega)]
theorem find_some {M:Nat} {o:Int} (h:knownB o=true):∃ (i:Nat) (s:ByteArray) (p a r:Int) (g:Fn) (c:Array Value),findKV (opsKV M) o 0=some (i,.agg #[.string s,.int .i64 p,.int .i64 a,.int .i64 r,.func g #[] c]):=by
 rcases known_cases h with rfl | rfl | rfl | rfl | rfl | rfl | rfl | rfl | rfl | rfl | rfl | rfl | rfl <;> exact ⟨_,_,_,_,_,_,_,rfl⟩
theorem look_no {w W:World} {M:Nat} {cs:List Value} (h:OpSt w M (opsKV M) cs W) {o:Int} (hk:knownB o=false):∀ W',Below W.heap.size W W' →
  (Instr.lookup 128 (.map (some M)) (.int .i64 o) true).run Tryz.prog W'=.ok (.tuple #[.agg #[.string ⟨#[]⟩,.int .i64 0,.int .i64 0,.int .i64 0,.nilFunc],.bool false]) W':=
 fun W' hb=>by rw [(h.map.below hb h.map.lt).look o true,find_none hk]; rfl
theorem look_yes {w W:World} {M:Nat} {cs:List Value} (h:OpSt w M (opsKV M) cs W) {o:Int} (hk:knownB o=true):∃ (s:ByteArray) (p a r:Int) (g:Fn) (c:Array Value),∀ W',Below W.heap.size W W' →
  (Instr.lookup 128 (.map (some M)) (.int .i64 o) true).run Tryz.prog W'=.ok (.tuple #[.agg #[.string s,.int .i64 p,.int .i64 a,.int .i64 r,.func g #[] c],.bool true]) W':=by
 obtain ⟨i,s,p,a,r,g,c,hf⟩:=find_some (M:=M) hk
 exact ⟨s,p,a,r,g,c,fun W' hb=>by rw [(h.map.below hb h.map.lt).look o true,hf]; rfl⟩
/-- operators' contract for a region that looks an operator up beside it. -/
def OpsP (V:World) (b:Nat) (o:Int) (W:World) (M:Nat) (x:Value):Prop:=W.cell? ⟨b,1,none⟩=some (.int .i64 o)∧b<W.heap.size∧Below V.heap.size V W∧(Instr.lookup 128 (.map (some M)) (.int .i64 o) true).run Tryz.prog W=.ok x W ∧
  (∀ ob,(Instr.lookup 128 (.map (some M)) (.int .i64 o) true).run Tryz.prog (W.alloc ob)=.ok x (W.alloc ob))∧(∀ ob,(W.alloc ob).cell? ⟨b,1,none⟩=some (.int .i64 o))∧∀ ob:Obj,b<(W.alloc ob).heap.size
theorem OpsP.mk {V W:World} {b M:Nat} {o:Int} {x:Value} (h1:V.cell? ⟨b,1,none⟩=some (.int .i64 o)) (h2:b<V.heap.size) (hb:Below V.heap.size V W) (hl:∀ W',Below W.heap.size W W'→(Instr.lookup 128 (.map (some M)) (.int .i64 o) true).run Tryz.prog W'=.ok x W'):OpsP V b o W M x:=
 have q1:=(hb.cell (p:=⟨b,1,none⟩) h2).trans h1
 have q2:=Nat.lt_of_lt_of_le h2 hb.size
 ⟨q1,q2,hb,hl W (Below.refl _ _),fun _=>hl _ (below_alloc _ _),fun ob=>(World.cell?_alloc_lt W ob ⟨b,1,none⟩ q2).trans q1,fun ob=>Nat.lt_of_lt_of_le q2 (below_alloc W ob).size⟩
theorem ops_no (V:World) (b:Nat) (o:Int) (hk:knownB o=false) (h1:V.cell? ⟨b,1,none⟩=some (.int .i64 o)) (h2:b<V.heap.size):Calls Tryz.prog 77 #[] V fun e W=>∃ M:Nat,e=.returned (.map (some M))∧OpsP V b o W M (.tuple #[.agg #[.string ⟨#[]⟩,.int .i64 0,.int .i64 0,.int .i64 0,.nilFunc],.bool false]):=by
 refine (operators_any V).mono ?_
 rintro e W ⟨rfl,hS⟩
 exact ⟨_,rfl,OpsP.mk h1 h2 hS.below (look_no hS hk)⟩
theorem ops_yes (V:World) (b:Nat) (o:Int) (hk:knownB o=true) (h1:V.cell? ⟨b,1,none⟩=some (.int .i64 o)) (h2:b<V.heap.size):Calls Tryz.prog 77 #[] V fun e W=>∃ (M:Nat) (s:ByteArray) (p a r:Int) (g:Fn) (c:Array Value),e=.returned (.map (some M))∧OpsP V b o W M (.tuple #[.agg #[.string s,.int .i64 p,.int .i64 a,.int .i64 r,.func g #[] c],.bool true]):=by
 refine (operators_any V).mono ?_
 rintro e W ⟨rfl,hS⟩
 obtain ⟨s,p,a,r,g,c,hl⟩:=look_yes hS hk
 exact ⟨_,s,p,a,r,g,c,rfl,OpsP.mk h1 h2 hS.below hl⟩

end Go.Proofs.YtedpopbaipnamaaGreatDoor
