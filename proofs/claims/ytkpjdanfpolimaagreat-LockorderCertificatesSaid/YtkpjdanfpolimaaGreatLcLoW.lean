/- What the lock analysis needs of a valid program; lockorder's acquires, walked. Conditions: · lockorder's behind, walked. Conditions: the analysis lies in memory, the place exists, the · lockorder's list, walked. Conditions: none. -/
import Derived.Test.YtkpjdanfpolimaaGreatLcOpn
import Derived.Lib.QuietBelow
import Derived.BigQuiet
import Derived.Deep.CutRange
set_option maxRecDepth 100000
set_option maxHeartbeats 3200000
namespace Go.Proofs.YtkpjdanfpolimaaGreat
section
open Go.RowKit Go.Shelf
def Idx (x:Int) (n:Nat):Prop:=0≤x∧x<(n:Int)
theorem idx_of {x:Int} {n:Nat} (h:inR2 x 0 ((n:Int) - 1)=true):Idx x n:=by rw [inR2_iff] at h; exact ⟨h.1,by omega⟩
structure InsW (p:Prg) (f:Fn) (i:Ins):Prop where
 lock:i.op=50∨i.op=52→Idx i.a p.obs.length∧∃ o,p.obs[i.a.toNat]? = some o∧o.kind=1
 rw:i.op=53∨i.op=54∨i.op=55∨i.op=56→Idx i.a p.obs.length∧∃ o,p.obs[i.a.toNat]? = some o∧o.kind=2
 try_:i.op=51→Idx i.b p.obs.length∧∃ o,p.obs[i.b.toNat]? = some o∧o.kind=1
 wait:i.op=57→Idx i.a p.obs.length∧Idx (p.obs.getD i.a.toNat default).other p.obs.length∧∃ o,p.obs[(p.obs.getD i.a.toNat default).other.toNat]? = some o∧o.kind=1
 call:i.op=15∨i.op=34∨i.op=17→Idx i.b p.funs.length
 jump:i.op=13→Idx i.a f.code.length
 cond:i.op=14→Idx i.b f.code.length
 open_:i.op=35→Idx i.c f.code.length
structure Wf (p:Prg):Prop where
 funs:0<p.funs.length∧p.funs.length≤32
 obs:p.obs.length≤16
 len:∀ f,f<p.funs.length→p.len f≤200
 ins:∀ f k,f<p.funs.length→k<p.len f→InsW p (p.fn f) (p.ins f k)
theorem ins_parts {p:Prg} {f:Fn} {i:Ins} (h:insOk p f i) {op w0 k0 w1 k1 w2 k2 g:Int} (ho:i.op=op) (hs:shapeF op=some [w0,k0,w1,k1,w2,k2,g]):opOk p f w0.toNat k0 i.a∧opOk p f w1.toNat k1 i.b∧opOk p f w2.toNat k2 i.c:=by
 obtain ⟨a0,b0,a1,b1,a2,b2,c,e,_,h0,h1,h2,_⟩:=h;rw [ho,hs] at e;injection e with e;injection e with e0 e; injection e with e1 e; injection e with e2 e; injection e with e3 e; injection e with e4 e; injection e with e5 e; injection e with e6 e;subst e0; subst e1; subst e2; subst e3; subst e4; subst e5; subst e6;exact ⟨h0,h1,h2⟩
theorem insW_of {p:Prg} {f:Fn} {i:Ins} (h:insOk p f i) (hob:∀ (k:Nat) (hk:k<p.obs.length),obOk p k p.obs[k]):InsW p f i:=by
 refine ⟨?_,?_,?_,?_,?_,?_,?_,?_⟩
 ·rintro (ho | ho)
  ·have:=(ins_parts h ho (w0:=12) (k0:=1) (w1:=0) (k1:=0) (w2:=0) (k2:=0) (g:=0) (by decide)).1; exact ⟨idx_of this.1,this.2⟩
  ·have:=(ins_parts h ho (w0:=12) (k0:=1) (w1:=0) (k1:=0) (w2:=0) (k2:=0) (g:=0) (by decide)).1; exact ⟨idx_of this.1,this.2⟩
 ·rintro (ho | ho | ho | ho)
  ·have:=(ins_parts h ho (w0:=12) (k0:=2) (w1:=0) (k1:=0) (w2:=0) (k2:=0) (g:=0) (by decide)).1; exact ⟨idx_of this.1,this.2⟩
  ·have:=(ins_parts h ho (w0:=12) (k0:=2) (w1:=0) (k1:=0) (w2:=0) (k2:=0) (g:=0) (by decide)).1; exact ⟨idx_of this.1,this.2⟩
  ·have:=(ins_parts h ho (w0:=12) (k0:=2) (w1:=0) (k1:=0) (w2:=0) (k2:=0) (g:=0) (by decide)).1; exact ⟨idx_of this.1,this.2⟩
  ·have:=(ins_parts h ho (w0:=12) (k0:=2) (w1:=0) (k1:=0) (w2:=0) (k2:=0) (g:=0) (by decide)).1; exact ⟨idx_of this.1,this.2⟩
 ·intro ho
  have:=(ins_parts h ho (w0:=4) (k0:=0) (w1:=12) (k1:=1) (w2:=0) (k2:=0) (g:=0) (by decide)).2.1; exact ⟨idx_of this.1,this.2⟩
 ·intro ho
  have h1:=(ins_parts h ho (w0:=12) (k0:=3) (w1:=0) (k1:=0) (w2:=0) (k2:=0) (g:=0) (by decide)).1;have hi:=idx_of h1.1;obtain ⟨o,e,hk⟩:=h1.2;have hl:i.a.toNat<p.obs.length:=by have:=hi.2; have:=hi.1; omega
  have e2:p.obs[i.a.toNat]=o:=by rw [List.getElem?_eq_getElem hl] at e; injection e
  have hb:=hob _ hl;rw [e2] at hb;have e3:p.obs.getD i.a.toNat default=o:=by rw [List.getD_eq_getElem?_getD,e]; rfl
  rw [e3];obtain ⟨_,_,_,hot,hcond,_⟩:=hb;rw [hk] at hot;obtain ⟨q,hq,hqk⟩:=hcond hk
  have h0:0≤o.other:=by
   have e4:(othersF p.obs.length 3).1=0:=rfl;rw [inR2_iff,e4] at hot; exact hot.1
  refine ⟨hi,⟨h0,?_⟩,q,hq,hqk⟩;have:=(List.getElem?_eq_some_iff.1 hq).1;omega
 ·rintro (ho | ho | ho)
  ·have:=(ins_parts h ho (w0:=4) (k0:=0) (w1:=8) (k1:=0) (w2:=0) (k2:=0) (g:=1) (by decide)).2.1; exact idx_of this.1
  ·have:=(ins_parts h ho (w0:=4) (k0:=0) (w1:=8) (k1:=0) (w2:=0) (k2:=0) (g:=1) (by decide)).2.1; exact idx_of this.1
  ·have:=(ins_parts h ho (w0:=0) (k0:=0) (w1:=9) (k1:=0) (w2:=0) (k2:=0) (g:=1) (by decide)).2.1; exact idx_of this.1
 ·intro ho
  have:=(ins_parts h ho (w0:=6) (k0:=0) (w1:=0) (k1:=0) (w2:=0) (k2:=0) (g:=0) (by decide)).1; exact idx_of this
 ·intro ho
  have:=(ins_parts h ho (w0:=3) (k0:=0) (w1:=6) (k1:=0) (w2:=0) (k2:=0) (g:=0) (by decide)).2.1; exact idx_of this
 ·intro ho
  have:=(ins_parts h ho (w0:=5) (k0:=0) (w1:=5) (k1:=0) (w2:=7) (k2:=0) (g:=0) (by decide)).2.2; exact idx_of this.1
theorem fn_eq {p:Prg} {f:Nat} (hf:f<p.funs.length):p.fn f=p.funs[f]:=by simp [Prg.fn,hf]
theorem ins_eq {p:Prg} {f k:Nat} (hf:f<p.funs.length) (hk:k<p.len f):∃ h:k<(p.funs[f]).code.length,p.ins f k=(p.funs[f]).code[k]:=by
 have hk2:k<(p.funs[f]).code.length:=by have:=hk; rw [Prg.len,fn_eq hf] at this; exact this
 exact ⟨hk2,by simp [Prg.ins,Fn.ins,fn_eq hf,hk2]⟩
theorem wf_of {p:Prg} (h:prgOk p):Wf p:=by
 obtain ⟨⟨l1,l2,l3,l4⟩,v1,v2,v3⟩:=h;refine ⟨⟨by omega,l2⟩,l3,fun f hf=>?_,fun f k hf hk=>?_⟩
 ·rw [Prg.len,fn_eq hf]; exact (v3 f hf).2.2.2.2.2.2.1
 ·obtain ⟨hk2,e⟩:=ins_eq hf hk
  rw [e,fn_eq hf];exact insW_of ((v3 f hf).2.2.2.2.2.2.2.2 _ (List.getElem_mem _)) v1
theorem acq_idx {p:Prg} {f:Fn} {i:Ins} (h:InsW p f i) {l:Int} (e:acq p i=some l):Idx l p.obs.length∧∃ o,p.obs[l.toNat]? = some o∧(o.kind=1∨o.kind=2):=by
 unfold acq at e;split at e
 ·rename_i ho
  injection e with e; subst e;rcases ho with ho | ho | ho
  ·obtain ⟨h1,o,h2,h3⟩:=h.lock (.inl ho); exact ⟨h1,o,h2,.inl h3⟩
  ·obtain ⟨h1,o,h2,h3⟩:=h.rw (.inl ho); exact ⟨h1,o,h2,.inr h3⟩
  ·obtain ⟨h1,o,h2,h3⟩:=h.rw (.inr (.inr (.inl ho))); exact ⟨h1,o,h2,.inr h3⟩
 ·split at e
  ·rename_i ho
   injection e with e; subst e;obtain ⟨h1,o,h2,h3⟩:=h.try_ ho; exact ⟨h1,o,h2,.inl h3⟩
  ·split at e
   ·rename_i ho
    injection e with e; subst e;obtain ⟨_,h1,o,h2,h3⟩:=h.wait ho; exact ⟨h1,o,h2,.inl h3⟩
   ·cases e
def acqVal (p:Prg) (i:Ins):Value:=match acq p i with | some l=>.tuple #[.int .i64 l,.bool true] | none=>.tuple #[.int .i64 0,.bool false]
theorem acq_any (p:Prg) (i:Ins) (hw:i.op=57→Idx i.a p.obs.length) (w:World) (h:Lies w w.heap.size p):Calls Tryz.prog 46 #[p.val,i.val] w (Ret (acqVal p i) w):=by
 obtain ⟨op,a,b,c,args,argA,argC⟩:=i;dsimp only at hw;have hT:=two_new w #[.slice p.funA p.funs.length p.funC,.slice p.obA p.obs.length p.obC,.slice p.vrA p.vrs.length p.vrC] #[.int .i64 op,.int .i64 a,.int .i64 b,.int .i64 c,.slice argA args.length argC] 26 63;unfold Prg.val Ins.val Ins.cells;dsimp only;generalize args.length=N at hT ⊢;go_enter Tryz.func46,Tryz.ntmps46;go_upto_region 1 with fail;generalize World.alloc (World.alloc w _) _=W1 at hT ⊢;obtain ⟨x0,x1,x2⟩:=bx3 hT.fst;obtain ⟨z0,z1,z2,z3,z4⟩:=bx5 hT.snd;have HT:=hid hT;clear hT;by_cases h50:op=50
 ·subst h50
  go_wp2_with fail;go_ret2;exact ⟨rfl,HT.out.below⟩
 ·by_cases h53:op=53
  ·subst h53
   go_wp2_with fail;go_ret2;exact ⟨rfl,HT.out.below⟩
  ·by_cases h55:op=55
   ·subst h55
    go_wp2_with fail;go_ret2;exact ⟨rfl,HT.out.below⟩
   ·by_cases h51:op=51
    ·subst h51
     go_wp2_with fail;go_ret2;exact ⟨rfl,HT.out.below⟩
    ·by_cases h57:op=57
     ·subst h57
      obtain ⟨ha0,ha1⟩:=hw rfl;obtain ⟨m,rfl⟩:∃ m:Nat,a=m:=⟨a.toNat,by omega⟩
      have hm:m<p.obs.length:=by omega
      obtain ⟨b9,off9,hA9,hb9,d0,d1,d2,d3⟩:=h.ob hm;have q3:=(HT.out.below.cell (p:=⟨b9,off9+m * 4+3,none⟩) hb9).trans d3;have e3:p.obs.getD m default=p.obs[m]:=by simp [hm]
      have hv:acqVal p ⟨57,m,b,c,args,argA,argC⟩=.tuple #[.int .i64 p.obs[m].other,.bool true]:=by simp only [acqVal,acq]; rw [if_neg (by decide),if_neg (by decide),if_pos (by decide)]; simp only [Int.toNat_natCast,e3]
      have HV:=hid hv;clear d0 d1 d2 d3 hv e3 h hw;simp only [hA9] at x1 ⊢;clear hA9;go_wp2_with fail;go_ret2;exact ⟨by rw [HV.out]; rfl,HT.out.below⟩
     ·have e1:(op == 50)=false:=by simpa using h50
      have e2:(op == 53)=false:=by simpa using h53
      have e3:(op == 55)=false:=by simpa using h55
      have e4:(op == 51)=false:=by simpa using h51
      have e5:(op == 57)=false:=by simpa using h57
      have hv:acqVal p ⟨op,a,b,c,args,argA,argC⟩=.tuple #[.int .i64 0,.bool false]:=by simp only [acqVal,acq]; rw [if_neg (by omega),if_neg (by omega),if_neg (by omega)]
      have HV:=hid hv;clear h50 h53 h55 h51 h57 hv;go_wp2_with fail;go_ret2;exact ⟨by rw [HV.out]; rfl,HT.out.below⟩
theorem Lies.at_ {p:Prg} {w:World} {B:Nat} (h:Lies w B p) {f k:Nat} (hf:f<p.funs.length) (hk:k<p.len f):∃ b off b2 off2:Nat,p.funA=some ⟨b,off,none⟩∧b<B∧b2<B∧w.cell? ⟨b,off+f * 6+4,none⟩=some (.bool (p.fn f).clean)∧w.cell? ⟨b,off+f * 6+5,none⟩=some (.slice (some ⟨b2,off2,none⟩) (p.len f) (p.fn f).codeC) ∧
  w.cell? ⟨b2,off2+k * 5,none⟩=some (.int .i64 (p.ins f k).op)∧w.cell? ⟨b2,off2+k * 5+1,none⟩=some (.int .i64 (p.ins f k).a)∧w.cell? ⟨b2,off2+k * 5+2,none⟩=some (.int .i64 (p.ins f k).b)∧w.cell? ⟨b2,off2+k * 5+3,none⟩=some (.int .i64 (p.ins f k).c) ∧
  w.cell? ⟨b2,off2+k * 5+4,none⟩=some (.slice (p.ins f k).argA (p.ins f k).args.length (p.ins f k).argC):=by
 obtain ⟨b,off,hA,hb,c0,c1,c2,c3,c4,c5⟩:=h.fn hf;obtain ⟨hk2,e⟩:=ins_eq hf hk;obtain ⟨b2,off2,hA2,hb2,d0,d1,d2,d3,d4⟩:=h.ins (f:=p.funs[f]) (List.getElem_mem _) hk2;rw [← e] at d0 d1 d2 d3 d4;have hl:p.funs[f].code.length=p.len f:=by rw [Prg.len,fn_eq hf]
 rw [hA2,hl] at c5;rw [← fn_eq hf] at c4 c5;exact ⟨b,off,b2,off2,hA,hb,hb2,c4,c5,d0,d1,d2,d3,d4⟩
theorem Lies.codeAt {p:Prg} {w:World} {B:Nat} (h:Lies w B p) {f:Nat} (hf:f<p.funs.length):∃ b off:Nat,p.funA=some ⟨b,off,none⟩∧b<B∧w.cell? ⟨b,off+f * 6+4,none⟩=some (.bool (p.fn f).clean)∧w.cell? ⟨b,off+f * 6+5,none⟩=some (.slice (p.fn f).codeA (p.len f) (p.fn f).codeC):=by
 obtain ⟨b,off,hA,hb,c0,c1,c2,c3,c4,c5⟩:=h.fn hf;have hl:p.funs[f].code.length=p.len f:=by rw [Prg.len,fn_eq hf]
 rw [hl] at c5;rw [← fn_eq hf] at c4 c5;exact ⟨b,off,hA,hb,c4,c5⟩
end
section
open Go.RowKit Go.Shelf
theorem bit_sv (m:Nat):(2:Int) ^ m % 4294967296=((bit m).toNat:Int):=by
 unfold bit;rw [BitVec.toNat_shiftLeft,Nat.shiftLeft_eq];have e1:(BitVec.toNat 1#32)=1:=rfl;have e2:(2:Nat) ^ 32=4294967296:=by decide
 have e3:(2:Int) ^ m=((2 ^ m:Nat):Int):=(Int.natCast_pow 2 m).symm;rw [e1,e2,e3,Nat.one_mul];generalize 2 ^ m=x;omega
theorem andNot_sv (x y:BS):bits .andNot .u32 (x.toNat:Int) (y.toNat:Int)=((x &&& ~~~ y).toNat:Int):=by
 have h:IntKind.u32.wrap (((BitVec.ofInt 32 (x.toNat:Int) &&& ~~~ BitVec.ofInt 32 (y.toNat:Int):BitVec 32).toNat:Nat):Int)=((x &&& ~~~ y).toNat:Int):=by
  rw [BitVec.ofInt_natCast,BitVec.ofInt_natCast,BitVec.ofNat_toNat,BitVec.ofNat_toNat,BitVec.setWidth_eq,BitVec.setWidth_eq];have:=(x &&& ~~~ y).isLt;show ((((x &&& ~~~ y).toNat:Int)) % 4294967296:Int)=_;omega
 exact h
theorem behind_any (p:Prg) (hW:Wf p) (L:Lay) (w:World) (s:S) (h:Mem p L w s) (f k:Nat) (hf:f<p.funs.length) (hk:k<p.len f) :
  Calls Tryz.prog 87 #[.pointer (some ⟨L.A,0,none⟩),.int .i64 f,.int .i64 k] w (Ret (.tuple #[sv (s.behind p f k).1,.bool (s.behind p f k).2]) w):=by
 have hI:=hW.ins f k hf hk;obtain ⟨b,off,b2,off2,hA,hb,hb2,-,d5,q0,q1,q2,q3,q4⟩:=h.prog.at_ hf hk;have c0:=h.c0;have f0:=zi f;have f1:(f:Int)<(p.funs.length:Int):=by omega
 have k0:=zi k;have k1:(k:Int)<(p.len f:Int):=by omega
 have hlo:=h.hi;have hacq:=fun (W:World) (hb:Below w.heap.size w W)=>acq_any p (p.ins f k) (fun e=>(hI.wait e).1) W ((h.prog.more (by omega)).next hb)
 generalize hi:p.ins f k=i at q0 q1 q2 q3 q4 hacq hI;have hB:s.behind p f k=if i.op=15 then ((s.get (.fin i.b.toNat)).2,(s.get (.fin i.b.toNat)).1) else if i.op=36 then ((s.get (.at_ f k)).2 ||| cleanM p,true) else if i.op=52∨i.op=54∨i.op=56 then ((s.get (.at_ f k)).2 &&& ~~~ bit i.a.toNat,true) else ((s.get (.at_ f k)).2 ||| acqBit p i,true):=by rw [← hi]; rfl
 obtain ⟨op,a,bb,c,args,argA,argC⟩:=i;dsimp only at q0 q1 q2 q3 q4 hB;unfold Prg.val Ins.val Ins.cells at hacq;dsimp only at hacq;rw [hA] at c0 hacq;have HB:=hid hB;have HACQ:=hid hacq;have HI:=hid hI;have HM:=hid h;clear hB hacq hi h hI hlo;unfold sv;go_enter Tryz.func87,Tryz.ntmps87;go_upto_region 2 with fail;clear c0 d5 q0 q1 q2 q3 q4;have hx:=bx_new w #[.int .i64 op,.int .i64 a,.int .i64 bb,.int .i64 c,.slice argA args.length argC] 63;have hbl:=below_alloc w (.cells #[.int .i64 op,.int .i64 a,.int .i64 bb,.int .i64 c,.slice argA args.length argC] 63);have hm:=HM.out.below hbl;have hz:w.heap.size<(World.alloc w (.cells #[.int .i64 op,.int .i64 a,.int .i64 bb,.int .i64 c,.slice argA args.length argC] 63)).heap.size:=by simp
 clear HM;generalize World.alloc w _=W1 at hx hbl hm hz ⊢;have HBL:=hid hbl;have HM:=hid hm;obtain ⟨z0,z1,z2,z3,z4⟩:=bx5 hx;have HX:=hid hx;have c10:=hm.c10;have cB:=hm.outB f hf;have cs:=(hm.slot (.at_ f k) ⟨hf,hk⟩).2.1;unfold Lay.tA sv at cs;dsimp only at cs;have hch:=HM.out.sized;clear hm hbl hx hch;by_cases h15:op=15
 ·subst h15
  obtain ⟨hb0,hb1⟩:=HI.out.call (.inl rfl);dsimp only at hb0 hb1;obtain ⟨m,rfl⟩:∃ m:Nat,bb=m:=⟨bb.toNat,by omega⟩
  have hmn:m<p.funs.length:=by omega
  have c8:=HM.out.c8;have c7:=HM.out.c7;have cf:=(HM.out.slot (.fin m) hmn).2.1;have ck:=(HM.out.slot (.fin m) hmn).1.1;unfold Lay.tA sv at cf;unfold Lay.kA at ck;dsimp only at cf ck;go_wp2_with fail;go_quiet (fail);go_wp2_with fail;go_ret2;exact ⟨by rw [HB.out]; rfl,HBL.out.trans ((below_drews _ _ _).mono HBL.out.size)⟩
 ·by_cases h36:op=36
  ·subst h36
   have c4:=HM.out.c4;unfold sv at c4;have HB2:=hid (show s.behind p f k=((s.get (.at_ f k)).2 ||| cleanM p,true) from by have:=HB.out; simpa using this);go_wp2_with fail;go_ret2;exact ⟨by rw [HB2.out,← or_sv]; rfl,HBL.out⟩
  ·by_cases hun:op=52∨op=54∨op=56
   ·have hidx:Idx a p.obs.length:=by
     rcases hun with e | e | e
     ·exact (HI.out.lock (.inr e)).1
     ·exact (HI.out.rw (.inr (.inl e))).1
     ·exact (HI.out.rw (.inr (.inr (.inr e)))).1
    obtain ⟨ha0,ha1⟩:=hidx;obtain ⟨m,rfl⟩:∃ m:Nat,a=m:=⟨a.toNat,by omega⟩
    have hm16:m<16:=by have:=hW.obs; omega
    have HB2:=hid (show s.behind p f k=((s.get (.at_ f k)).2 &&& ~~~ bit m,true) from by rw [HB.out,if_neg h15,if_neg h36,if_pos hun]; rfl);rcases hun with rfl | rfl | rfl
    ·go_wp2_with fail
     go_ret2;exact ⟨by rw [HB2.out,← andNot_sv,← bit_sv]; rfl,HBL.out⟩
    ·go_wp2_with fail
     go_ret2;exact ⟨by rw [HB2.out,← andNot_sv,← bit_sv]; rfl,HBL.out⟩
    ·go_wp2_with fail
     go_ret2;exact ⟨by rw [HB2.out,← andNot_sv,← bit_sv]; rfl,HBL.out⟩
   ·have e1:(op == 15)=false:=by simpa using h15
    have e2:(op == 36)=false:=by simpa using h36
    have e3:(op == 52)=false:=by simp; omega
    have e4:(op == 54)=false:=by simp; omega
    have e5:(op == 56)=false:=by simp; omega
    have HB2:=hid (show s.behind p f k=((s.get (.at_ f k)).2 ||| acqBit p ⟨op,a,bb,c,args,argA,argC⟩,true) from by rw [HB.out,if_neg h15,if_neg h36,if_neg hun]);clear HB h15 h36 hun;go_upto_region 12 with fail;have C0:=HM.out.c0;have C1:=HM.out.c1;have C2:=HM.out.c2;rw [hA] at C0;have y0:=fun d os=>cell_regrown (w:=W1) C0 d os
    have y1:=fun d os=>cell_regrown (w:=W1) C1 d os
    have y2:=fun d os=>cell_regrown (w:=W1) C2 d os
    have y3:=fun d os=>cell_regrown (w:=W1) z0 d os
    have y4:=fun d os=>cell_regrown (w:=W1) z1 d os
    have y5:=fun d os=>cell_regrown (w:=W1) z2 d os
    have y6:=fun d os=>cell_regrown (w:=W1) z3 d os
    have y7:=fun d os=>cell_regrown (w:=W1) z4 d os
    have HAC:=hid (fun d os=>HACQ.out (Go.Sort.grow (redrawn W1 d) os) (HBL.out.trans ((below_regrown W1 d os).mono HBL.out.size)));have HA:=hid hA;clear hA
    cases hq:acq p ⟨op,a,bb,c,args,argA,argC⟩ with
    | none=>
     have HV:Hid (acqVal p ⟨op,a,bb,c,args,argA,argC⟩=.tuple #[.int .i64 0,.bool false]):=by show _=_; unfold acqVal; rw [hq]
     have HK:Hid ((s.get (.at_ f k)).2 ||| acqBit p ⟨op,a,bb,c,args,argA,argC⟩=(s.get (.at_ f k)).2):=by show _=_; unfold acqBit; rw [hq]; exact BitVec.or_zero
     rw [HV.out] at HAC;clear hq;refine wp_region_quiet_below (by kernel_rfl) (by kernel_rfl) ?_
     repeat (go_big_quiet_step (first | exact Calls.regrown_of (HAC.out _ _)))
     refine wpQuiet_nil ?_;rintro _ ⟨pq,rfl⟩;go_wp2_with fail;go_ret2;exact ⟨by rw [HB2.out,HK.out]; rfl,HBL.out.trans ((below_regrown _ _ _).mono HBL.out.size)⟩
    | some l=>
     have HV:Hid (acqVal p ⟨op,a,bb,c,args,argA,argC⟩=.tuple #[.int .i64 l,.bool true]):=by show _=_; unfold acqVal; rw [hq]
     have HK:Hid (acqBit p ⟨op,a,bb,c,args,argA,argC⟩=bit l.toNat):=by show _=_; unfold acqBit; rw [hq]
     obtain ⟨⟨hl0,hl1⟩,-⟩:=acq_idx HI.out hq;obtain ⟨m,rfl⟩:∃ m:Nat,l=m:=⟨l.toNat,by omega⟩
     have hm16:m<16:=by have:=hW.obs; omega
     rw [HV.out] at HAC;clear hq;refine wp_region_quiet_below (by kernel_rfl) (by kernel_rfl) ?_
     repeat (go_big_quiet_step (first | exact Calls.regrown_of (HAC.out _ _)))
     refine wpQuiet_nil ?_;rintro _ ⟨pq,rfl⟩;go_wp2_with fail;go_ret2;exact ⟨by rw [HB2.out,HK.out,Int.toNat_natCast,← or_sv,← bit_sv]; rfl,HBL.out.trans ((below_regrown _ _ _).mono HBL.out.size)⟩
end
section
open Go.RowKit Go.Shelf
theorem i64info:(Tryz.prog.info? 3).map (fun i=>(i.zero,i.size,i.bytes))=some (some (.int .i64 0),1,8):=by kernel_rfl
def OwnI (w:World) (base:Nat) (v:Value) (l:List Int):Prop:=w.ownsRow base 3 1 v l.length (i64s l)
theorem ownI_of_eq {w:World} {base n:Nat} {v:Value} {xs:List Value} {l:List Int} (hn:n=l.length) (hx:xs=i64s l) (h:w.ownsRow base 3 1 v n xs):OwnI w base v l:=by
 subst hn; subst hx; exact h
theorem and_sv (x y:BS):bits .and .u32 (x.toNat:Int) (y.toNat:Int)=((x &&& y).toNat:Int):=by
 have h:IntKind.u32.wrap (((BitVec.ofInt 32 (x.toNat:Int) &&& BitVec.ofInt 32 (y.toNat:Int):BitVec 32).toNat:Nat):Int)=((x &&& y).toNat:Int):=by
  rw [BitVec.ofInt_natCast,BitVec.ofInt_natCast,BitVec.ofNat_toNat,BitVec.ofNat_toNat,BitVec.setWidth_eq,BitVec.setWidth_eq];have:=(x &&& y).isLt;show ((((x &&& y).toNat:Int)) % 4294967296:Int)=_;omega
 exact h
theorem bit_test (s:BS) (j:Nat):(bits .and .u32 ((s.toNat:Int) / 2 ^ j) 1 == 1)=s.getLsbD j:=by
 have e1:(s.toNat:Int) / 2 ^ j=(((s >>> j:BS).toNat:Nat):Int):=by
  rw [BitVec.toNat_ushiftRight,Nat.shiftRight_eq_div_pow,Int.natCast_ediv,Int.natCast_pow]; rfl
 have e2:(1:Int)=(((1#32:BS).toNat:Nat):Int):=rfl;rw [e1];have e3:=and_sv (s >>> j) 1#32;rw [← e2] at e3;rw [e3,BitVec.and_one_eq_setWidth_ofBool_getLsbD];have e4:(s >>> j:BS).getLsbD 0=s.getLsbD j:=by rw [BitVec.getLsbD_ushiftRight]; rfl
 rw [e4];cases s.getLsbD j <;> rfl
theorem listTo_succ (s:BS) (j:Nat):((List.range (j+1)).filter (fun i=>s.getLsbD i))=((List.range j).filter (fun i=>s.getLsbD i))++(if s.getLsbD j then [j] else []):=by
 rw [List.range_succ,List.filter_append];congr 1;cases h:s.getLsbD j <;> simp [h]
def nats (l:List Nat):List Int:=l.map (fun (n:Nat)=>(n:Int))
theorem cell_one (w:World) (v:Value) (t:TypeId):∀ j u,([v]:List Value)[j]? = some u→(w.alloc (.cells #[v] t)).cell? ((⟨w.heap.size,0,none⟩:Addr).add j)=some u:=by
 intro j u hu
 match j with
 | 0=>injection hu with hu; subst hu; rw [addr_add]; simp
 | _+1=>cases hu
theorem list_any (s:BS) (w:World):Calls Tryz.prog 47 #[sv s] w fun e W=>∃ v,e=.returned v∧OwnI W w.heap.size v (nats (listM s))∧Below w.heap.size w W:=by
 obtain ⟨i0,hi,hz⟩:=Option.map_eq_some_iff.1 i64info;have hz0:i0.zero=some (.int .i64 0):=congrArg (fun t=>t.1) hz;have hz1:i0.size=1:=congrArg (fun t=>t.2.1) hz;have hz2:i0.bytes=8:=congrArg (fun t=>t.2.2) hz;clear hz;unfold sv;go_enter Tryz.func47,Tryz.ntmps47;go_wp2_with fail;go_loopw [3,5] (fun a k wr=>∃ j:Nat,k=.int .i64 j∧j≤16∧OwnI wr w.heap.size a (nats ((List.range j).filter (fun i=>s.getLsbD i)))∧Below w.heap.size w wr) (fun _ k _=>16 - (intOf k).toNat)
 case atStart=>exact ⟨0,rfl,by omega,World.ownsRow_nil _ _ _ _,Below.refl _ _⟩
 case round=>
  obtain ⟨j,rfl,hj,hown,hb⟩:=hrel;have hj0:=zi j;have hwr1:=Wi j (by omega);by_cases hlt:j<16
  ·have hd1:=Dt (show (j:Int)<16 by omega)
   have ht:=bit_test s j;have hls:=listTo_succ s j;have hl16:((List.range j).filter (fun i=>s.getLsbD i)).length≤16:=Nat.le_trans (List.length_filter_le _ _) (by rw [List.length_range]; exact hj);obtain ⟨l2,hl2⟩:∃ l2,(List.range (j+1)).filter (fun i=>s.getLsbD i)=l2:=⟨_,rfl⟩
   rw [hl2] at hls;have HE:=hid hl2;clear hl2;generalize (List.range j).filter (fun i=>s.getLsbD i)=l at hown hls hl16;have HLS:=hid hls;clear hls
   cases hbit:s.getLsbD j with
   | true=>
    rw [hbit] at ht;have HL2:=hid (show l2=l++[j] from by rw [HLS.out,hbit]; rfl);clear HLS hbit;obtain ⟨A,c,rfl⟩:=own_form hown;unfold OwnI at hown;have hnl:(nats l).length=l.length:=by simp [nats]
    have hmx:(nats l).length+1≤maxLen:=by unfold maxLen; omega
    have hby:((nats l).length+1) * 8≤140737488355328:=by omega
    have hbs:w.heap.size≤(wr.alloc (.cells #[.int .i64 (j:Int)] 3)).heap.size:=by have:=hb.size; simp; omega
    have hbl:=hb.trans ((below_alloc wr (.cells #[.int .i64 (j:Int)] 3)).mono hb.size);clear hnl hl16;go_wp2_with (at_builtin; refine wpList_append_own _ rfl (.tmp 13) (.tmp 15) _ rfl w.heap.size 3 i0 (.int .i64 0) 1 8 Tryz.underlying27 hi hz0 hz1 hz2 rfl (by omega) _ _ _ rfl (World.ownsRow.alloc hown _) ⟨wr.heap.size,0,none⟩ 1 1 [.int .i64 j] rfl rfl (cell_one _ _ _) (by simp [Value.oneCell']) hmx hby hbs ?_; intro v2 w3 hown2 hg2 _);exact ⟨⟨j+1,by go_num,by omega,by rw [HE.out]; exact ownI_of_eq (by simp [nats,HL2.out]) (by simp [nats,HL2.out,i64s_append]; rfl) hown2,hbl.grown hg2 hbs (fun g e=>(World.ownsRow.lt hown g e).1)⟩,by simp [intOf]; omega⟩
   | false=>
    rw [hbit] at ht;have HL2:=hid (show l2=l from by rw [HLS.out,hbit]; simp);clear HLS hbit;go_wp2_with fail;exact ⟨⟨j+1,by go_num,by omega,by rw [HE.out,HL2.out]; exact hown,hb⟩,by simp [intOf]; omega⟩
  ·have hd1:=Df (show ¬ (j:Int)<16 by omega)
   obtain rfl:j=16:=by omega
   clear hlt hj;go_wp2_with fail;go_ret;exact ⟨_,rfl,hown,hb⟩
end
end Go.Proofs.YtkpjdanfpolimaaGreat
