/- ref13.checkCase, walked. Conditions: the program lies in memory. · ref13.checkArgs, walked. Conditions: the program lies in memory. · ref13.checkArgs of a call, walked. Conditions: the program lies in memory. -/
import Derived.Test.YtkpjdanfpolimaaGreatLcRopd
set_option maxRecDepth 100000
set_option maxHeartbeats 6400000
namespace Go.Proofs.YtkpjdanfpolimaaGreat
section
open Go.RowKit
def chOk (p:Prg) (n:Int):Prop:=inR2 n 0 ((p.obs.length:Int) - 1)=true∧∃ o,p.obs[n.toNat]? = some o∧o.kind=6
def caseOk (p:Prg) (f:Fn) (k ch r:Int):Prop:=(k=1∧chOk p ch∧inR2 r 0 (f.regs - 1)=true)∨(k=2∧chOk p ch∧r=0)∨(k=3∧ch=0∧r=0)
theorem rcase_any (p:Prg) (f:Fn) (k ch r:Int) (hr:0≤f.regs∧f.regs≤32) (w:World) (h:Lies w w.heap.size p) :
  Calls Tryz.prog 120 #[p.val,f.val,.int .i64 k,.int .i64 ch,.int .i64 r] w (RetE (caseOk p f k ch r) w):=by
 have hwr:IntKind.i64.wrap (f.regs - 1)=f.regs - 1:=by rw [IntKind.wrap_i64]; omega
 have hT:=two_new w #[.slice p.funA p.funs.length p.funC,.slice p.obA p.obs.length p.obC,.slice p.vrA p.vrs.length p.vrC] #[.string f.name,.int .i64 f.params,.int .i64 f.regs,.int .i64 f.prio,.bool f.clean,.slice f.codeA f.code.length f.codeC] 26 60;have hcall:=fun w h=>obIdx_any p ch 6 w h
 unfold Prg.val at hcall;have HC:=hid hcall;clear hcall;obtain ⟨V,hV⟩:∃ V,V=caseOk p f k ch r:=⟨_,rfl⟩
 rw [← hV];have HV:=hid (iff_of_eq hV);clear hV;obtain ⟨X,hX⟩:∃ X,X=chOk p ch:=⟨_,rfl⟩
 have HX:=hid hX;have HC2:=hid (show ∀ w,Lies w w.heap.size p→Calls Tryz.prog 119 #[.agg #[.slice p.funA p.funs.length p.funC,.slice p.obA p.obs.length p.obC,.slice p.vrA p.vrs.length p.vrC],.int .i64 ch,.int .i64 6] w (RetE X w) from by rw [hX]; exact HC.out);clear HC hX;go_enter Tryz.func120,Tryz.ntmps120;unfold Prg.val Fn.val Fn.cells;go_wp2_with fail;generalize World.alloc (World.alloc w _) _=W1 at hT ⊢;refine (between_any _ _ _ _).mono ?_
 cases hq:inR2 k 1 3 with
 | false=>
  rintro e W4 ⟨rfl,hb4⟩;have hT4:=hT.next hb4
  have HNO:=hid (show ¬ V from fun z=>by
   rw [inR2_no] at hq;rcases HV.out.1 z with ⟨e,_⟩ | ⟨e,_⟩ | ⟨e,_⟩ <;> omega)
  clear HV hq;go_wp2_with fail;go_ret;exact retE_no (by decide) HNO.out hT4.below
 | true=>
  rintro e W4 ⟨rfl,hb4⟩;have hT4:=hT.next hb4;obtain ⟨x0,x1,x2⟩:=bx3 hT4.fst;obtain ⟨y0,y1,y2,y3,y4,y5⟩:=bx6 hT4.snd;have hk:k=1∨k=2∨k=3:=by rw [inR2_iff] at hq; omega
  clear hq;rcases hk with rfl | rfl | rfl
  ·go_wp2_with fail
   refine (HC2.out _ (h.next hT4.below)).mono ?_;rintro e W5 ⟨v,rfl,hv,hb5⟩;have hT5:=hT4.next hb5;obtain ⟨x50,x51,x52⟩:=bx3 hT5.fst;obtain ⟨y50,y51,y52,y53,y54,y55⟩:=bx6 hT5.snd;clear y0 y1 y2 y3 y4 y5 x0 x1 x2 HC2;by_cases hv0:v=0
   ·have HXY:=hid (hv.1 hv0)
    subst hv0;clear hv;go_wp2_with fail;refine (between_any _ _ _ _).mono ?_
    cases hq2:inR2 r 0 (f.regs - 1) with
    | false=>
     rintro e W6 ⟨rfl,hb6⟩;have hT6:=hT5.next hb6
     have HNO:=hid (show ¬ V from fun z=>by
      rcases HV.out.1 z with ⟨_,_,c⟩ | ⟨e,_⟩ | ⟨e,_⟩
      ·exact absurd (hq2.symm.trans c) (by decide)
      ·exact absurd e (by decide)
      ·exact absurd e (by decide))
     clear HV;go_wp2_with fail;go_ret;exact retE_no (by decide) HNO.out hT6.below
    | true=>
     rintro e W6 ⟨rfl,hb6⟩;have hT6:=hT5.next hb6;have HY:=hid (show V from HV.out.2 (.inl ⟨rfl,HX.out ▸ HXY.out,hq2⟩));clear HV hq2;go_wp2_with fail;go_ret;exact retE_ok HY.out hT6.below
   ·have HNO:=hid (show ¬ V from fun z=>hv0 (hv.2 (by rcases HV.out.1 z with ⟨e,c,_⟩ | ⟨e,c,_⟩ | ⟨e,_⟩ <;> first | (exact absurd e (by decide)) | (exact HX.out.symm ▸ c))))
    have e1:(v != 0)=true:=by simpa using hv0
    have HV0:=hid hv0;clear hv hv0 HV;go_wp2_with fail;go_ret;exact retE_no HV0.out HNO.out hT5.below
  ·go_wp2_with fail
   refine (HC2.out _ (h.next hT4.below)).mono ?_;rintro e W5 ⟨v,rfl,hv,hb5⟩;have hT5:=hT4.next hb5;obtain ⟨x50,x51,x52⟩:=bx3 hT5.fst;obtain ⟨y50,y51,y52,y53,y54,y55⟩:=bx6 hT5.snd;clear y0 y1 y2 y3 y4 y5 x0 x1 x2 HC2;by_cases hv0:v=0
   ·have HXY:=hid (hv.1 hv0)
    subst hv0;clear hv;by_cases hr0:r=0
    ·have HY:=hid (show V from HV.out.2 (.inr (.inl ⟨rfl,HX.out ▸ HXY.out,hr0⟩)))
     have e1:(r != 0)=false:=by simpa using hr0
     clear HV;go_wp2_with fail;go_ret;exact retE_ok HY.out hT5.below
    ·have e1:(r != 0)=true:=by simpa using hr0
     have HNO:=hid (show ¬ V from fun z=>by
      rcases HV.out.1 z with ⟨e,_⟩ | ⟨_,_,c⟩ | ⟨e,_⟩
      ·exact absurd e (by decide)
      ·exact hr0 c
      ·exact absurd e (by decide))
     clear HV hr0;go_wp2_with fail;go_ret;exact retE_no (by decide) HNO.out hT5.below
   ·have HNO:=hid (show ¬ V from fun z=>hv0 (hv.2 (by rcases HV.out.1 z with ⟨e,c,_⟩ | ⟨e,c,_⟩ | ⟨e,_⟩ <;> first | (exact absurd e (by decide)) | (exact HX.out.symm ▸ c))))
    have e1:(v != 0)=true:=by simpa using hv0
    have HV0:=hid hv0;clear hv hv0 HV;go_wp2_with fail;go_ret;exact retE_no HV0.out HNO.out hT5.below
  ·clear HC2
   by_cases hc0:ch=0
   ·by_cases hr0:r=0
    ·have HY:=hid (show V from HV.out.2 (.inr (.inr ⟨rfl,hc0,hr0⟩)))
     subst hc0; subst hr0;clear HV;go_wp2_with fail;go_ret;exact retE_ok HY.out hT4.below
    ·have e1:(r != 0)=true:=by simpa using hr0
     have HNO:=hid (show ¬ V from fun z=>by
      rcases HV.out.1 z with ⟨e,_⟩ | ⟨e,_⟩ | ⟨_,_,c⟩
      ·exact absurd e (by decide)
      ·exact absurd e (by decide)
      ·exact hr0 c)
     subst hc0;clear HV hr0;go_wp2_with fail;go_ret;exact retE_no (by decide) HNO.out hT4.below
   ·have e1:(ch != 0)=true:=by simpa using hc0
    have HNO:=hid (show ¬ V from fun z=>by
     rcases HV.out.1 z with ⟨e,_⟩ | ⟨e,_⟩ | ⟨_,c,_⟩
     ·exact absurd e (by decide)
     ·exact absurd e (by decide)
     ·exact hc0 c)
    clear HV hc0;go_wp2_with fail;go_ret;exact retE_no (by decide) HNO.out hT4.below
end
section
open Go.RowKit
def regsOk (f:Fn) (l:List Int):Prop:=∀ x∈l,inR2 x 0 (f.regs - 1)=true
def dcnt (l:List Int):Nat→Nat
 | 0=>0
 | m+1=>dcnt l m+(if l.getD (3 * m) 0=3 then 1 else 0)
def casesTo (p:Prg) (f:Fn) (l:List Int) (m:Nat):Prop:=∀ j,j<m→caseOk p f (l.getD (3 * j) 0) (l.getD (3 * j+1) 0) (l.getD (3 * j+2) 0)
def argsOk (p:Prg) (f:Fn) (what:Nat) (i:Ins):Prop:=
 match what with
 | 0=>i.args=[]
 | 1=>(∃ g,p.funs[i.b.toNat]? = some g∧(i.args.length:Int)=g.params)∧regsOk f i.args
 | 2=>i.args.length=2∧regsOk f i.args
 | 3=>(i.args.length≠0∧i.args.length % 3=0∧i.args.length≤18)∧casesTo p f i.args (i.args.length / 3)∧dcnt i.args (i.args.length / 3)≤1
 | _=>False
def cflOk (i:Ins):Prop:=¬ (i.op=65∧i.a=i.c)∧¬ (i.op=67∧(i.a=i.b∨i.a=i.c∨i.b=i.c))
structure Three (w W:World) (a b c:List Value):Prop where
 two:Two w W a b
 thd:Bx W (w.heap.size+2) c
 size:w.heap.size+3≤W.heap.size
theorem Three.next {w W W':World} {a b c:List Value} (h:Three w W a b c) (hb:Below W.heap.size W W'):Three w W' a b c:=
 ⟨h.two.next hb,h.thd.below hb (by have:=h.size; omega),by have:=h.size; have:=hb.size; omega⟩
theorem three_new (w:World) (a b c:Array Value) (s t u:Nat):Three w (((w.alloc (.cells a s)).alloc (.cells b t)).alloc (.cells c u)) a.toList b.toList c.toList:=by
 have hT:=two_new w a b s t;refine ⟨hT.next (below_alloc _ _),?_,by simp⟩;have:=bx_new ((w.alloc (.cells a s)).alloc (.cells b t)) c u
 rwa [show ((w.alloc (.cells a s)).alloc (.cells b t)).heap.size=w.heap.size+2 from by simp] at this
theorem bx5 {W:World} {g:Nat} {a b c d e:Value} (hb:Bx W g [a,b,c,d,e]):W.cell? ⟨g,0,none⟩=some a∧W.cell? ⟨g,1,none⟩=some b∧W.cell? ⟨g,2,none⟩=some c∧W.cell? ⟨g,3,none⟩=some d∧W.cell? ⟨g,4,none⟩=some e:=⟨hb 0 _ rfl,hb 1 _ rfl,hb 2 _ rfl,hb 3 _ rfl,hb 4 _ rfl⟩
theorem regsOk_take {f:Fn} (l:List Int) {k:Nat} (hk:k<l.length) (h:regsOk f (l.take k)) (hx:inR2 l[k] 0 (f.regs - 1)=true):regsOk f (l.take (k+1)):=by
 intro x hm;rw [List.take_succ_eq_append_getElem hk,List.mem_append] at hm;rcases hm with hm | hm
 ·exact h x hm
 ·rw [List.mem_singleton] at hm; rw [hm]; exact hx
theorem rargs2 (p:Prg) (f:Fn) (i:Ins) (hal:i.args.length≤maxLen) (hr:0≤f.regs∧f.regs≤32) (h67:i.op≠67) (w:World) (h:Lies w w.heap.size p) (ha:Rd w w.heap.size 1 i.argA i.args.length (i64s i.args)) :
  Calls Tryz.prog 98 #[p.val,f.val,.int .u8 50,i.val] w (RetE (argsOk p f 2 i∧cflOk i) w):=by
 obtain ⟨V,hV⟩:∃ V,V=(argsOk p f 2 i∧cflOk i):=⟨_,rfl⟩
 rw [← hV];have HV:=hid (iff_of_eq hV);clear hV;obtain ⟨op,a,b,c,args,argA,argC⟩:=i;unfold Prg.val Fn.val Fn.cells Ins.val Ins.cells;dsimp only at hal h67 ha ⊢;obtain ⟨N,hN⟩:∃ N,args.length=N:=⟨_,rfl⟩
 rw [hN] at hal ha ⊢;have HN:=hid hN;clear hN;unfold maxLen at hal;have _hh:=h;have hT:=three_new w #[.slice p.funA p.funs.length p.funC,.slice p.obA p.obs.length p.obC,.slice p.vrA p.vrs.length p.vrC] #[.string f.name,.int .i64 f.params,.int .i64 f.regs,.int .i64 f.prio,.bool f.clean,.slice f.codeA f.code.length f.codeC] #[.int .i64 op,.int .i64 a,.int .i64 b,.int .i64 c,.slice argA N argC] 26 60 63;have hwr:IntKind.i64.wrap (f.regs - 1)=f.regs - 1:=by rw [IntKind.wrap_i64]; omega
 by_cases hl:N=2
 ·have HL:=hid hl
  have e1:((N:Int) != 2)=false:=by simp; omega
  have e2:(N == 2)=true:=by simp; omega
  have e3:(N != 2)=false:=by simp; omega
  clear hl e2;go_enter Tryz.func98,Tryz.ntmps98;go_wp2_with fail;generalize World.alloc (World.alloc (World.alloc w _) _) _=W1 at hT ⊢;go_loopw [10,11] (fun d k' wr=>∃ k:Nat,d=.int .i64 0∧k'=.int .i64 k∧k≤N∧Hid (regsOk f (args.take k))∧Three w wr [.slice p.funA p.funs.length p.funC,.slice p.obA p.obs.length p.obC,.slice p.vrA p.vrs.length p.vrC] [.string f.name,.int .i64 f.params,.int .i64 f.regs,.int .i64 f.prio,.bool f.clean,.slice f.codeA f.code.length f.codeC] [.int .i64 op,.int .i64 a,.int .i64 b,.int .i64 c,.slice argA N argC]) (fun _ k' _=>N - (intOf k').toNat)
  case atStart=>exact ⟨0,rfl,rfl,by omega,hid (fun x hx=>by simp at hx),hT⟩
  case round=>
   obtain ⟨k,rfl,rfl,hk,hall,hTr⟩:=hrel;obtain ⟨x0,x1,x2⟩:=bx3 hTr.two.fst;obtain ⟨y0,y1,y2,y3,y4,y5⟩:=bx6 hTr.two.snd;obtain ⟨z0,z1,z2,z3,z4⟩:=bx5 hTr.thd;have hk0:=zi k;by_cases hlt:k<N
   ·have hwr1:=Wi k (by omega)
    have hd1:=Dt (show (k:Int)<N by omega);have hd2:=Dt hlt;have hlt2:(k:Int)<(N:Int):=by omega
    have hkl:k<args.length:=by rw [HN.out]; exact hlt
    obtain ⟨b9,off9,hA9,hb9,hcl⟩:=(ha.below hTr.two.below).addr (by omega);subst hA9;have q0:=hcl k _ (i64s_at args k hkl);obtain ⟨x,hx⟩:∃ x,args[k]=x:=⟨_,rfl⟩
    rw [hx] at q0;have HXX:=hid hx;clear hx hcl
    cases hq:inR2 x 0 (f.regs - 1) with
    | false=>
     have HNO:=hid (show ¬ V from fun v=>by
      have h9:=(HV.out.1 v).1.2 x (by rw [← HXX.out]; exact List.getElem_mem _);rw [hq] at h9; cases h9)
     clear HV;go_wp2_with fail;go_region_with (go_at_call 79; refine (between_any _ _ _ _).mono ?_; rw [hq]; rintro e w5 ⟨rfl,hb5⟩)
     all_goals
      go_wp2_with fail;go_ret;exact retE_no (by decide) HNO.out ((hTr.two.below.drew).trans (hb5.mono hTr.two.below.size))
    | true=>
     have HALL:=hid (regsOk_take args hkl hall.out (by rw [HXX.out]; exact hq));go_wp2_with fail;go_region_with (go_at_call 79; refine (between_any _ _ _ _).mono ?_; rw [hq]; rintro e w5 ⟨rfl,hb5⟩)
     all_goals
      go_wp2_with fail;exact ⟨⟨k+1,rfl,by go_num,by omega,HALL,(hTr.next (below_drews _ _ 1)).next hb5⟩,by simp [intOf]; omega⟩
   ·have hd1:=Df (show ¬ (k:Int)<N by omega)
    have hd2:=Df hlt;obtain rfl:k=N:=by omega
    have HR:=hid (show regsOk f args from by have:=hall.out; rwa [← HN.out,List.take_length] at this);by_cases h65:op=65∧a=c
    ·have e65:(op == 65)=true:=by simp [h65.1]
     have eac:(a == c)=true:=by simp [h65.2]
     have HNO:=hid (show ¬ V from fun v=>(HV.out.1 v).2.1 h65);clear HV h65;go_wp2_with fail;go_ret;exact retE_no (by decide) HNO.out hTr.two.below
    ·have HY:=hid (show V from HV.out.2 ⟨⟨HN.out.trans HL.out,HR.out⟩,h65,fun e=>h67 e.1⟩)
     by_cases h65':op=65
     ·have e65:(op == 65)=true:=by simp [h65']
      have eac:(a == c)=false:=by simp; exact fun e=>h65 ⟨h65',e⟩
      clear HV h65 h65';go_wp2_with fail;go_ret;exact retE_ok HY.out hTr.two.below
     ·have e65:(op == 65)=false:=by simp; exact h65'
      clear HV h65 h65';go_wp2_with fail;go_ret;exact retE_ok HY.out hTr.two.below
 ·have HNO:=hid (show ¬ V from fun v=>hl (HN.out.symm.trans (HV.out.1 v).1.1))
  have e1:((N:Int) != 2)=true:=by simp; omega
  have e3:(N != 2)=true:=by simp; omega
  clear hl HV;go_enter Tryz.func98,Tryz.ntmps98;go_wp2_with fail;generalize World.alloc (World.alloc (World.alloc w _) _) _=W1 at hT ⊢;go_ret;exact retE_no (by decide) HNO.out hT.two.below
theorem rargs0 (p:Prg) (f:Fn) (i:Ins) (hal:i.args.length≤maxLen) (hr:0≤f.regs∧f.regs≤32) (h67:i.op≠67) (w:World) (h:Lies w w.heap.size p) (ha:Rd w w.heap.size 1 i.argA i.args.length (i64s i.args)) :
  Calls Tryz.prog 98 #[p.val,f.val,.int .u8 46,i.val] w (RetE (argsOk p f 0 i∧cflOk i) w):=by
 obtain ⟨V,hV⟩:∃ V,V=(argsOk p f 0 i∧cflOk i):=⟨_,rfl⟩
 rw [← hV];have HV:=hid (iff_of_eq hV);clear hV;obtain ⟨op,a,b,c,args,argA,argC⟩:=i;unfold Prg.val Fn.val Fn.cells Ins.val Ins.cells;dsimp only at hal h67 ha ⊢;obtain ⟨N,hN⟩:∃ N,args.length=N:=⟨_,rfl⟩
 rw [hN] at hal ha ⊢;have HN:=hid hN;clear hN;unfold maxLen at hal;have _hh:=h;have hT:=three_new w #[.slice p.funA p.funs.length p.funC,.slice p.obA p.obs.length p.obC,.slice p.vrA p.vrs.length p.vrC] #[.string f.name,.int .i64 f.params,.int .i64 f.regs,.int .i64 f.prio,.bool f.clean,.slice f.codeA f.code.length f.codeC] #[.int .i64 op,.int .i64 a,.int .i64 b,.int .i64 c,.slice argA N argC] 26 60 63;have hwr:IntKind.i64.wrap (f.regs - 1)=f.regs - 1:=by rw [IntKind.wrap_i64]; omega
 by_cases hl:N=0
 ·have HL:=hid hl
  have e1:=Df (show ¬ (0:Int)<N by omega);have e2:=Df (show ¬ (0<N) by omega);clear hl;go_enter Tryz.func98,Tryz.ntmps98;go_wp2_with fail;generalize World.alloc (World.alloc (World.alloc w _) _) _=W1 at hT ⊢;go_loopw [10,11] (fun d k' wr=>∃ k:Nat,d=.int .i64 0∧k'=.int .i64 k∧k≤N∧Hid (regsOk f (args.take k))∧Three w wr [.slice p.funA p.funs.length p.funC,.slice p.obA p.obs.length p.obC,.slice p.vrA p.vrs.length p.vrC] [.string f.name,.int .i64 f.params,.int .i64 f.regs,.int .i64 f.prio,.bool f.clean,.slice f.codeA f.code.length f.codeC] [.int .i64 op,.int .i64 a,.int .i64 b,.int .i64 c,.slice argA N argC]) (fun _ k' _=>N - (intOf k').toNat)
  case atStart=>exact ⟨0,rfl,rfl,by omega,hid (fun x hx=>by simp at hx),hT⟩
  case round=>
   obtain ⟨k,rfl,rfl,hk,hall,hTr⟩:=hrel;obtain ⟨x0,x1,x2⟩:=bx3 hTr.two.fst;obtain ⟨y0,y1,y2,y3,y4,y5⟩:=bx6 hTr.two.snd;obtain ⟨z0,z1,z2,z3,z4⟩:=bx5 hTr.thd;have hk0:=zi k;by_cases hlt:k<N
   ·have hwr1:=Wi k (by omega)
    have hd1:=Dt (show (k:Int)<N by omega);have hd2:=Dt hlt;have hlt2:(k:Int)<(N:Int):=by omega
    have hkl:k<args.length:=by rw [HN.out]; exact hlt
    obtain ⟨b9,off9,hA9,hb9,hcl⟩:=(ha.below hTr.two.below).addr (by omega);subst hA9;have q0:=hcl k _ (i64s_at args k hkl);obtain ⟨x,hx⟩:∃ x,args[k]=x:=⟨_,rfl⟩
    rw [hx] at q0;have HXX:=hid hx;clear hx hcl
    cases hq:inR2 x 0 (f.regs - 1) with
    | false=>
     have HNO:=hid (show ¬ V from fun v=>by
      have h9:=(fun (v9:_∧_)=>(by have h10:args=[]:=v9.1; rw [h10] at hkl; exact absurd hkl (by simp):regsOk f args)) (HV.out.1 v) x (by rw [← HXX.out]; exact List.getElem_mem _);rw [hq] at h9; cases h9)
     clear HV;go_wp2_with fail;go_region_with (go_at_call 79; refine (between_any _ _ _ _).mono ?_; rw [hq]; rintro e w5 ⟨rfl,hb5⟩)
     all_goals
      go_wp2_with fail;go_ret;exact retE_no (by decide) HNO.out ((hTr.two.below.drew).trans (hb5.mono hTr.two.below.size))
    | true=>
     have HALL:=hid (regsOk_take args hkl hall.out (by rw [HXX.out]; exact hq));go_wp2_with fail;go_region_with (go_at_call 79; refine (between_any _ _ _ _).mono ?_; rw [hq]; rintro e w5 ⟨rfl,hb5⟩)
     all_goals
      go_wp2_with fail;exact ⟨⟨k+1,rfl,by go_num,by omega,HALL,(hTr.next (below_drews _ _ 1)).next hb5⟩,by simp [intOf]; omega⟩
   ·have hd1:=Df (show ¬ (k:Int)<N by omega)
    have hd2:=Df hlt;obtain rfl:k=N:=by omega
    skip
    by_cases h65:op=65∧a=c
    ·have e65:(op == 65)=true:=by simp [h65.1]
     have eac:(a == c)=true:=by simp [h65.2]
     have HNO:=hid (show ¬ V from fun v=>(HV.out.1 v).2.1 h65);clear HV h65;go_wp2_with fail;go_ret;exact retE_no (by decide) HNO.out hTr.two.below
    ·have HY:=hid (show V from HV.out.2 ⟨(show args=[] from List.eq_nil_of_length_eq_zero (HN.out.trans HL.out)),h65,fun e=>h67 e.1⟩)
     by_cases h65':op=65
     ·have e65:(op == 65)=true:=by simp [h65']
      have eac:(a == c)=false:=by simp; exact fun e=>h65 ⟨h65',e⟩
      clear HV h65 h65';go_wp2_with fail;go_ret;exact retE_ok HY.out hTr.two.below
     ·have e65:(op == 65)=false:=by simp; exact h65'
      clear HV h65 h65';go_wp2_with fail;go_ret;exact retE_ok HY.out hTr.two.below
 ·have HNO:=hid (show ¬ V from fun v=>hl (by rw [← HN.out,show args=[] from (HV.out.1 v).1]; rfl))
  have e1:=Dt (show (0:Int)<N by omega);have e2:=Dt (show 0<N by omega);clear hl HV;go_enter Tryz.func98,Tryz.ntmps98;go_wp2_with fail;generalize World.alloc (World.alloc (World.alloc w _) _) _=W1 at hT ⊢;go_ret;exact retE_no (by decide) HNO.out hT.two.below
end
section
open Go.RowKit
theorem rargs1 (p:Prg) (f:Fn) (i:Ins) (hal:i.args.length≤maxLen) (hr:0≤f.regs∧f.regs≤32) (h67:i.op≠67) (hbr:inR2 i.b 0 ((p.funs.length:Int) - 1)=true) (w:World) (h:Lies w w.heap.size p) (ha:Rd w w.heap.size 1 i.argA i.args.length (i64s i.args)) :
  Calls Tryz.prog 98 #[p.val,f.val,.int .u8 112,i.val] w (RetE (argsOk p f 1 i∧cflOk i) w):=by
 obtain ⟨V,hV⟩:∃ V,V=(argsOk p f 1 i∧cflOk i):=⟨_,rfl⟩
 rw [← hV];have HV:=hid (iff_of_eq hV);clear hV;obtain ⟨op,a,b,c,args,argA,argC⟩:=i;unfold Prg.val Fn.val Fn.cells Ins.val Ins.cells;dsimp only at hal h67 ha hbr ⊢;obtain ⟨N,hN⟩:∃ N,args.length=N:=⟨_,rfl⟩
 rw [hN] at hal ha ⊢;have HN:=hid hN;clear hN;unfold maxLen at hal;have _hh:=h;have hT:=three_new w #[.slice p.funA p.funs.length p.funC,.slice p.obA p.obs.length p.obC,.slice p.vrA p.vrs.length p.vrC] #[.string f.name,.int .i64 f.params,.int .i64 f.regs,.int .i64 f.prio,.bool f.clean,.slice f.codeA f.code.length f.codeC] #[.int .i64 op,.int .i64 a,.int .i64 b,.int .i64 c,.slice argA N argC] 26 60 63;have hwr:IntKind.i64.wrap (f.regs - 1)=f.regs - 1:=by rw [IntKind.wrap_i64]; omega
 obtain ⟨u,hu⟩:∃ u:Nat,b=(u:Int):=⟨b.toNat,by rw [inR2_iff] at hbr; omega⟩
 subst hu;have hul:u<p.funs.length:=by rw [inR2_iff] at hbr; omega
 have hul2:(u:Int)<(p.funs.length:Int):=by omega
 have hu0:=zi u;have hget:p.funs[((u:Nat):Int).toNat]? = some p.funs[u]:=by rw [show ((u:Nat):Int).toNat=u from by simp]; exact List.getElem?_eq_getElem hul
 obtain ⟨b8,off8,hA8,hb8,-,d,-,-,-,-⟩:=h.fn hul;rw [hA8] at hT ⊢;obtain ⟨z,hz⟩:∃ z,p.funs[u].params=z:=⟨_,rfl⟩
 rw [hz] at d;have d':=(hT.two.below.cell (p:=⟨b8,off8+u * 6+1,none⟩) hb8).trans d;have HZ:=hid hz;have HG:=hid hget;clear hz hget hbr;by_cases hl:(N:Int)=z
 ·have HL:=hid hl
  have e1:((N:Int) != z)=false:=by simp; omega
  clear hl;go_enter Tryz.func98,Tryz.ntmps98;go_wp2_with fail
  try go_region
  try (go_wp2_with fail)
  generalize World.alloc (World.alloc (World.alloc w _) _) _=W1 at hT ⊢;go_loopw [10,11] (fun d k' wr=>∃ k:Nat,d=.int .i64 0∧k'=.int .i64 k∧k≤N∧Hid (regsOk f (args.take k))∧Three w wr [.slice (some ⟨b8,off8,none⟩) p.funs.length p.funC,.slice p.obA p.obs.length p.obC,.slice p.vrA p.vrs.length p.vrC] [.string f.name,.int .i64 f.params,.int .i64 f.regs,.int .i64 f.prio,.bool f.clean,.slice f.codeA f.code.length f.codeC] [.int .i64 op,.int .i64 a,.int .i64 (u:Int),.int .i64 c,.slice argA N argC]) (fun _ k' _=>N - (intOf k').toNat)
  case atStart=>exact ⟨0,rfl,rfl,by omega,hid (fun x hx=>by simp at hx),by first | exact hT | exact hT.next (below_drews _ _ 1)⟩
  case round=>
   obtain ⟨k,rfl,rfl,hk,hall,hTr⟩:=hrel;obtain ⟨x0,x1,x2⟩:=bx3 hTr.two.fst;obtain ⟨y0,y1,y2,y3,y4,y5⟩:=bx6 hTr.two.snd;obtain ⟨z0,z1,z2,z3,z4⟩:=bx5 hTr.thd;have hk0:=zi k;by_cases hlt:k<N
   ·have hwr1:=Wi k (by omega)
    have hd1:=Dt (show (k:Int)<N by omega);have hd2:=Dt hlt;have hlt2:(k:Int)<(N:Int):=by omega
    have hkl:k<args.length:=by rw [HN.out]; exact hlt
    obtain ⟨b9,off9,hA9,hb9,hcl⟩:=(ha.below hTr.two.below).addr (by omega);subst hA9;have q0:=hcl k _ (i64s_at args k hkl);obtain ⟨x,hx⟩:∃ x,args[k]=x:=⟨_,rfl⟩
    rw [hx] at q0;have HXX:=hid hx;clear hx hcl
    cases hq:inR2 x 0 (f.regs - 1) with
    | false=>
     have HNO:=hid (show ¬ V from fun v=>by
      have h9:=(HV.out.1 v).1.2 x (by rw [← HXX.out]; exact List.getElem_mem _);rw [hq] at h9; cases h9)
     clear HV;go_wp2_with fail;go_region_with (go_at_call 79; refine (between_any _ _ _ _).mono ?_; rw [hq]; rintro e w5 ⟨rfl,hb5⟩)
     all_goals
      go_wp2_with fail;go_ret;exact retE_no (by decide) HNO.out ((hTr.two.below.drew).trans (hb5.mono hTr.two.below.size))
    | true=>
     have HALL:=hid (regsOk_take args hkl hall.out (by rw [HXX.out]; exact hq));go_wp2_with fail;go_region_with (go_at_call 79; refine (between_any _ _ _ _).mono ?_; rw [hq]; rintro e w5 ⟨rfl,hb5⟩)
     all_goals
      go_wp2_with fail;exact ⟨⟨k+1,rfl,by go_num,by omega,HALL,(hTr.next (below_drews _ _ 1)).next hb5⟩,by simp [intOf]; omega⟩
   ·have hd1:=Df (show ¬ (k:Int)<N by omega)
    have hd2:=Df hlt;obtain rfl:k=N:=by omega
    have HR:=hid (show regsOk f args from by have:=hall.out; rwa [← HN.out,List.take_length] at this);by_cases h65:op=65∧a=c
    ·have e65:(op == 65)=true:=by simp [h65.1]
     have eac:(a == c)=true:=by simp [h65.2]
     have HNO:=hid (show ¬ V from fun v=>(HV.out.1 v).2.1 h65);clear HV h65;go_wp2_with fail;go_ret;exact retE_no (by decide) HNO.out hTr.two.below
    ·have HY:=hid (show V from HV.out.2 ⟨⟨⟨p.funs[u],HG.out,by rw [HZ.out]; exact (congrArg (fun n:Nat=>(n:Int)) HN.out).trans HL.out⟩,HR.out⟩,h65,fun e=>h67 e.1⟩)
     by_cases h65':op=65
     ·have e65:(op == 65)=true:=by simp [h65']
      have eac:(a == c)=false:=by simp; exact fun e=>h65 ⟨h65',e⟩
      clear HV h65 h65';go_wp2_with fail;go_ret;exact retE_ok HY.out hTr.two.below
     ·have e65:(op == 65)=false:=by simp; exact h65'
      clear HV h65 h65';go_wp2_with fail;go_ret;exact retE_ok HY.out hTr.two.below
 ·have HNO:=hid (show ¬ V from fun v=>by
   obtain ⟨g,e1,e2⟩:=(HV.out.1 v).1.1;rw [HG.out] at e1;injection e1 with e1;apply hl;rw [← HZ.out,e1,← e2,HN.out])
  have e1:((N:Int) != z)=true:=by simp; omega
  clear hl HV;go_enter Tryz.func98,Tryz.ntmps98;go_wp2_with fail
  try go_region
  try (go_wp2_with fail)
  generalize World.alloc (World.alloc (World.alloc w _) _) _=W1 at hT ⊢;go_ret;exact retE_no (by decide) HNO.out (by first | exact hT.two.below | exact hT.two.below.drew)
end
end Go.Proofs.YtkpjdanfpolimaaGreat
