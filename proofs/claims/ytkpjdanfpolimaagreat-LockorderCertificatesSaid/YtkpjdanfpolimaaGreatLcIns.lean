/- Valid instructions; ref13.checkInstr, walked. Conditions: the program lies in memory. · The checker's registers among Args, walked. Conditions: none. · The checker's args, walked (all but the cases of a select). Conditions: the program lies -/
import Derived.Test.YtkpjdanfpolimaaGreatLcRargsS
import Derived.Test.YtkpjdanfpolimaaGreatLcRole
import Derived.Test.YtkpjdanfpolimaaGreatLcShp2
import Derived.Test.YtkpjdanfpolimaaGreatLcBase
import Derived.RangeFuncNested
import Derived.RangeFuncBound
import Derived.RangeFuncCalls
import Derived.RangeFuncLeaves
import Derived.RangeFuncBox
import Derived.Shelf.Abstract
import Derived.OwnWalkIn
import Derived.TacticsInMore
import Derived.LoopNIn
import Derived.LoopIn
import Derived.Test.YtkpjdanfpolimaaGreatProg
import Derived.Test.YtkpjdanfpolimaaGreatLcSlice
import Derived.Sort.QuietTacIn
import Derived.Sort.BigQuietIn
import Derived.Deep.RegionHeld3
import Derived.OrdersIn
import Derived.Deep.Quiet
import Derived.StillTailTactics
import Derived.Lib.QuietBelow
import Derived.BigQuiet
set_option maxRecDepth 100000
set_option maxHeartbeats 3200000
namespace Go.Proofs.YtkpjdanfpolimaaGreat
section
open Go.RowKit
def roleRel:List (Int × Nat × Int):=[(46,0,0),(110,1,0),(109,2,0),(114,3,0),(119,4,0),(111,5,0),(116,6,0),(99,7,0),(102,8,0),(100,9,0),(118,10,0),(97,11,0),(49,12,1),(50,12,2),(51,12,3),(52,12,4),(53,12,5),(54,12,6),(55,12,7),(56,12,8),(57,12,9)]
def roleArg:List (Int × Nat):=[(46,0),(112,1),(50,2),(115,3)]
def tabOk (op:Int):Bool:=
 match shapeF op with
 | none=>(roleF op).isEmpty
 | some l=>match l,roleF op with
  | [w0,k0,w1,k1,w2,k2,g],[r0,r1,r2,r3]=>decide (((r0.toNat:Int),w0.toNat,k0)∈roleRel) && decide (((r1.toNat:Int),w1.toNat,k1)∈roleRel) && decide (((r2.toNat:Int),w2.toNat,k2)∈roleRel) && decide (((r3.toNat:Int),g.toNat)∈roleArg) &&
    decide (0≤w0) && decide (0≤w1) && decide (0≤w2) && decide (0≤g) && (decide (g=3) == decide (op=67)) && (!decide (g=1) || decide (w1=8) || decide (w1=9))
  | _,_=>false
theorem look_out {T:List (Int × List Int)} (h:∀ x∈T,0≤x.1∧x.1≤75) {op:Int} (ho:op<0∨75<op):look T op=none:=by
 unfold look;rw [List.find?_eq_none.2 (fun x hx=>by have:=h x hx; simp; omega)];rfl
theorem tabOk_all (op:Int):tabOk op=true:=by
 by_cases ho:op<0∨75<op
 ·have h1:look shpTab op=none:=look_out (by decide) ho
  have h2:look grpTab op=none:=look_out (by decide) ho;have h3:look roleTab op=none:=look_out (by decide) ho;have h4:shapeF op=none:=by rw [shapeF,h1]; exact h2
  have h5:roleF op=[]:=by rw [roleF,h3]; rfl
  rw [tabOk,h4];show (roleF op).isEmpty=true;rw [h5]; rfl
 ·obtain ⟨n,rfl⟩:∃ n:Nat,op=(n:Int):=⟨op.toNat,by omega⟩
  have hall:∀ n:Fin 76,tabOk ((n.val:Nat):Int)=true:=by decide +kernel
  exact hall ⟨n,by omega⟩
def insOk (p:Prg) (f:Fn) (i:Ins):Prop:=
 ∃ w0 k0 w1 k1 w2 k2 g:Int,shapeF i.op=some [w0,k0,w1,k1,w2,k2,g]∧(f.clean=true→i.op∉forbL)∧opOk p f w0.toNat k0 i.a∧opOk p f w1.toNat k1 i.b∧opOk p f w2.toNat k2 i.c∧argsOk p f g.toNat i∧cflOk i
theorem ropd_any (p:Prg) (f:Fn) (hf:f∈p.funs) (n:Int) (r:Int) (what:Nat) (kd:Int) (hrel:(r,what,kd)∈roleRel) (hr:0≤f.regs∧f.regs≤32) (w:World) (h:Lies w w.heap.size p) :
  Calls Tryz.prog 97 #[p.val,f.val,.int .u8 r,.int .i64 n] w (RetE (opOk p f what kd n) w):=by
 simp only [roleRel,List.mem_cons,List.not_mem_nil,or_false,Prod.mk.injEq] at hrel;rcases hrel with ⟨rfl,rfl,rfl⟩ | ⟨rfl,rfl,rfl⟩ | ⟨rfl,rfl,rfl⟩ | ⟨rfl,rfl,rfl⟩ | ⟨rfl,rfl,rfl⟩ | ⟨rfl,rfl,rfl⟩ | ⟨rfl,rfl,rfl⟩ | ⟨rfl,rfl,rfl⟩ | ⟨rfl,rfl,rfl⟩ | ⟨rfl,rfl,rfl⟩ | ⟨rfl,rfl,rfl⟩ | ⟨rfl,rfl,rfl⟩ | ⟨rfl,rfl,rfl⟩ | ⟨rfl,rfl,rfl⟩ | ⟨rfl,rfl,rfl⟩ | ⟨rfl,rfl,rfl⟩ | ⟨rfl,rfl,rfl⟩ | ⟨rfl,rfl,rfl⟩ | ⟨rfl,rfl,rfl⟩ | ⟨rfl,rfl,rfl⟩ | ⟨rfl,rfl,rfl⟩
 ·exact ropd46 p f hf n _ hr w h
 ·exact ropdP p f hf n _ _ _ _ _ (.inl ⟨rfl,rfl,rfl,rfl⟩) hr w h
 ·exact ropdP p f hf n _ _ _ _ _ (.inr (.inl ⟨rfl,rfl,rfl,rfl⟩)) hr w h
 ·exact ropdP p f hf n _ _ _ _ _ (.inr (.inr (.inl ⟨rfl,rfl,rfl,rfl⟩))) hr w h
 ·exact ropdP p f hf n _ _ _ _ _ (.inr (.inr (.inr (.inl ⟨rfl,rfl,rfl,rfl⟩)))) hr w h
 ·exact ropd111 p f hf n _ hr w h
 ·exact ropdP p f hf n _ _ _ _ _ (.inr (.inr (.inr (.inr (.inl ⟨rfl,rfl,rfl,rfl⟩))))) hr w h
 ·exact ropd99 p f hf n _ hr w h
 ·exact ropd102 p f hf n _ hr w h
 ·exact ropd100 p f hf n _ hr w h
 ·exact ropdP p f hf n _ _ _ _ _ (.inr (.inr (.inr (.inr (.inr ⟨rfl,rfl,rfl,rfl⟩))))) hr w h
 ·exact ropd97 p f hf n _ hr w h
 ·exact ropdD p f n _ _ (.inl ⟨rfl,rfl⟩) w h
 ·exact ropdD p f n _ _ (.inr (.inl ⟨rfl,rfl⟩)) w h
 ·exact ropdD p f n _ _ (.inr (.inr (.inl ⟨rfl,rfl⟩))) w h
 ·exact ropdD p f n _ _ (.inr (.inr (.inr (.inl ⟨rfl,rfl⟩)))) w h
 ·exact ropdD p f n _ _ (.inr (.inr (.inr (.inr (.inl ⟨rfl,rfl⟩))))) w h
 ·exact ropdD p f n _ _ (.inr (.inr (.inr (.inr (.inr (.inl ⟨rfl,rfl⟩)))))) w h
 ·exact ropdD p f n _ _ (.inr (.inr (.inr (.inr (.inr (.inr (.inl ⟨rfl,rfl⟩))))))) w h
 ·exact ropdD p f n _ _ (.inr (.inr (.inr (.inr (.inr (.inr (.inr (.inl ⟨rfl,rfl⟩)))))))) w h
 ·exact ropdD p f n _ _ (.inr (.inr (.inr (.inr (.inr (.inr (.inr (.inr ⟨rfl,rfl⟩)))))))) w h
end
section
open Go.RowKit
theorem cloReg (p:Prg) (f:Fn) (x:Int) (hr:0≤f.regs∧f.regs≤32) (g:Nat) (w:World) (hc:Bx w g [.slice p.funA p.funs.length p.funC,.slice p.obA p.obs.length p.obC,.slice p.vrA p.vrs.length p.vrC,.string f.name,.int .i64 f.params,.int .i64 f.regs,.int .i64 f.prio,.bool f.clean,.slice f.codeA f.code.length f.codeC]) :
  Calls Tryz.prog 142 #[.int .i64 x,.pointer (some ⟨g,0,none⟩)] w (Ret (.bool (!inR2 x 0 (f.regs - 1))) w):=by
 obtain ⟨x0,x1,x2,x3,x4,x5,x6,x7,x8⟩:=bx9 hc;have hcall:=fun w=>reg_any p f x hr w
 unfold ckVal ckCells at hcall;have HC:=hid hcall;clear hcall;go_enter Tryz.func142,Tryz.ntmps142;go_wp2_with fail;refine (HC.out _).mono ?_;rintro e w1 ⟨rfl,hb1⟩;go_wp2_with fail;go_ret;exact ⟨rfl,hb1⟩
theorem idxReg (p:Prg) (f:Fn) (hr:0≤f.regs∧f.regs≤32) (A:Option Addr) (c:Nat) (l:List Int) (g:Nat) (w:World) (h:Rd w w.heap.size 1 A l.length (i64s l)) (hm:l.length≤maxLen) (hg:g<w.heap.size) (hc:Bx w g [.slice p.funA p.funs.length p.funC,.slice p.obA p.obs.length p.obC,.slice p.vrA p.vrs.length p.vrC,.string f.name,.int .i64 f.params,.int .i64 f.regs,.int .i64 f.prio,.bool f.clean,.slice f.codeA f.code.length f.codeC]) :
  Calls Tryz.prog 133 #[.slice A l.length c,.func (.func 142) #[] #[.pointer (some ⟨g,0,none⟩)]] w (RetIdx (l.any fun x=>!inR2 x 0 (f.regs - 1)) w):=by
 unfold maxLen at hm;go_enter Tryz.func133,Tryz.ntmps133;go_wp2_with fail;go_loopw [5,8] (fun _ i wr=>∃ k:Nat,i=.int .i64 k∧k≤l.length∧Hid ((l.take k).any (fun x=>!inR2 x 0 (f.regs - 1))=false)∧Below w.heap.size w wr) (fun _ i _=>l.length - (intOf i).toNat)
 case atStart=>exact ⟨0,rfl,by omega,hid (by simp),Below.refl _ _⟩
 case round=>
  obtain ⟨k,rfl,hk,hnone,hb⟩:=hrel;by_cases hlt:k<l.length
  ·have hd1:=Dt (show (k:Int)<l.length by omega)
   have hd2:=Dt hlt;obtain ⟨b,off,rfl,hbb,hcl⟩:=(h.below hb).addr (by omega);have q0:=hcl k _ (i64s_at l k hlt);have hs:=any_take l hlt hnone.out;obtain ⟨x,hx⟩:∃ x,l[k]=x:=⟨_,rfl⟩
   rw [hx] at q0 hs;have hwr1:=Wi k (by omega);have hcg:=hc.below hb hg;have HS:=hid hs;have HCG:=hid hcg;clear hs hx hcl hnone hcg
   cases hq:(!inR2 x 0 (f.regs - 1)) with
   | true=>
    have HQ:=hid hq;clear hq;go_wp2_with fail;refine (cloReg p f x hr g _ HCG.out).mono ?_;rw [HQ.out];rintro e w1 ⟨rfl,hb1⟩;go_wp2_with fail;go_ret;exact ⟨_,rfl,by rw [any_of_take' (HS.out.trans HQ.out)]; simp,hb.trans (hb1.mono hb.size)⟩
   | false=>
    have HQ:=hid hq;clear hq;go_wp2_with fail;refine (cloReg p f x hr g _ HCG.out).mono ?_;rw [HQ.out];rintro e w1 ⟨rfl,hb1⟩;go_wp2_with fail;exact ⟨⟨k+1,by go_num,by omega,hid (HS.out.trans HQ.out),hb.trans (hb1.mono hb.size)⟩,by simp [intOf]; omega⟩
  ·have hd1:=Df (show ¬ (k:Int)<l.length by omega)
   have hd2:=Df hlt;obtain rfl:k=l.length:=by omega
   have HR:=hid (show (l.any fun x=>!inR2 x 0 (f.regs - 1))=false from by have:=hnone.out; rwa [List.take_length] at this);go_wp2_with fail;go_ret;exact ⟨_,rfl,by rw [HR.out]; rfl,hb⟩
theorem hasReg (p:Prg) (f:Fn) (hr:0≤f.regs∧f.regs≤32) (A:Option Addr) (c:Nat) (l:List Int) (g:Nat) (w:World) (h:Rd w w.heap.size 1 A l.length (i64s l)) (hm:l.length≤maxLen) (hg:g<w.heap.size) (hc:Bx w g [.slice p.funA p.funs.length p.funC,.slice p.obA p.obs.length p.obC,.slice p.vrA p.vrs.length p.vrC,.string f.name,.int .i64 f.params,.int .i64 f.regs,.int .i64 f.prio,.bool f.clean,.slice f.codeA f.code.length f.codeC]) :
  Calls Tryz.prog 141 #[.slice A l.length c,.func (.func 142) #[] #[.pointer (some ⟨g,0,none⟩)]] w (Ret (.bool (l.any fun x=>!inR2 x 0 (f.regs - 1))) w):=by
 go_enter Tryz.func141,Tryz.ntmps141;go_wp2_with fail;refine (idxReg p f hr A c l g _ h hm hg hc).mono ?_;rintro e w1 ⟨i,rfl,hi,hb1⟩;have HI:=hid hi;clear hi;go_wp2_with fail;go_ret;exact ⟨by rw [← HI.out]; rfl,hb1⟩
theorem regsOk_iff (f:Fn) (l:List Int):(l.any fun x=>!inR2 x 0 (f.regs - 1))=false↔regsOk f l:=by
 rw [List.any_eq_false];unfold regsOk;constructor
 ·intro h x hx
  have:=h x hx;simpa using this
 ·intro h x hx
  have:=h x hx;simp [this]
end
section
open Go.RowKit
theorem args0 (p:Prg) (f:Fn) (i:Ins) (hal:i.args.length≤maxLen) (hr:0≤f.regs∧f.regs≤32) (w:World) (h:Lies w w.heap.size p) (ha:Rd w w.heap.size 1 i.argA i.args.length (i64s i.args)) :
  Calls Tryz.prog 127 #[ckVal p f,.int .i64 0,i.val] w (RetE (argsOk p f 0 i) w):=by
 obtain ⟨V,hV⟩:∃ V,V=argsOk p f 0 i:=⟨_,rfl⟩
 rw [← hV];have HV:=hid (iff_of_eq hV);clear hV;obtain ⟨op,a,b,c,args,argA,argC⟩:=i;unfold ckVal ckCells Ins.val Ins.cells;dsimp only at hal ha ⊢;obtain ⟨N,hN⟩:∃ N,args.length=N:=⟨_,rfl⟩
 have halN:=hal;rw [hN] at hal ha ⊢;have HN:=hid hN;have haa:Rd w w.heap.size 1 argA args.length (i64s args):=by rw [hN]; exact ha
 have _hh:=h;have _hr:=hr;clear hN;unfold maxLen at hal;have hT:=two_new w #[.slice p.funA p.funs.length p.funC,.slice p.obA p.obs.length p.obC,.slice p.vrA p.vrs.length p.vrC,.string f.name,.int .i64 f.params,.int .i64 f.regs,.int .i64 f.prio,.bool f.clean,.slice f.codeA f.code.length f.codeC] #[.int .i64 op,.int .i64 a,.int .i64 b,.int .i64 c,.slice argA N argC] 144 63;by_cases hl:N=0
 ·have HY:=hid (show V from HV.out.2 (show args=[] from List.eq_nil_of_length_eq_zero (HN.out.trans hl)))
  have e1:=Df (show ¬ (0:Int)<N by omega);have e2:=Df (show ¬ (0<N) by omega);clear hl HV;go_enter Tryz.func127,Tryz.ntmps127;go_wp2_with fail;go_ret;exact retE_ok HY.out hT.below
 ·have HNO:=hid (show ¬ V from fun v=>hl (by rw [← HN.out,show args=[] from HV.out.1 v]; rfl))
  have e1:=Dt (show (0:Int)<N by omega);have e2:=Dt (show 0<N by omega);clear hl HV;go_enter Tryz.func127,Tryz.ntmps127;go_wp2_with fail;go_ret;exact retE_no (by decide) HNO.out hT.below
theorem args2 (p:Prg) (f:Fn) (i:Ins) (hal:i.args.length≤maxLen) (hr:0≤f.regs∧f.regs≤32) (w:World) (h:Lies w w.heap.size p) (ha:Rd w w.heap.size 1 i.argA i.args.length (i64s i.args)) :
  Calls Tryz.prog 127 #[ckVal p f,.int .i64 2,i.val] w (RetE (argsOk p f 2 i) w):=by
 obtain ⟨V,hV⟩:∃ V,V=argsOk p f 2 i:=⟨_,rfl⟩
 rw [← hV];have HV:=hid (iff_of_eq hV);clear hV;obtain ⟨op,a,b,c,args,argA,argC⟩:=i;unfold ckVal ckCells Ins.val Ins.cells;dsimp only at hal ha ⊢;obtain ⟨N,hN⟩:∃ N,args.length=N:=⟨_,rfl⟩
 have halN:=hal;rw [hN] at hal ha ⊢;have HN:=hid hN;have haa:Rd w w.heap.size 1 argA args.length (i64s args):=by rw [hN]; exact ha
 have _hh:=h;have _hr:=hr;clear hN;unfold maxLen at hal;have hT:=two_new w #[.slice p.funA p.funs.length p.funC,.slice p.obA p.obs.length p.obC,.slice p.vrA p.vrs.length p.vrC,.string f.name,.int .i64 f.params,.int .i64 f.regs,.int .i64 f.prio,.bool f.clean,.slice f.codeA f.code.length f.codeC] #[.int .i64 op,.int .i64 a,.int .i64 b,.int .i64 c,.slice argA N argC] 144 63;by_cases hl:N=2
 ·have HL:=hid hl
  have e1:((N:Int) != 2)=false:=by simp; omega
  have e3:(N != 2)=false:=by simp; omega
  clear hl;go_enter Tryz.func127,Tryz.ntmps127;go_wp2_with fail;generalize World.alloc (World.alloc w _) _=W1 at hT ⊢;have hcall:=hasReg p f hr argA argC args w.heap.size W1 (Rd.more (Rd.below haa hT.below) hT.below.size) halN (by have:=hT.size; omega) hT.fst;rw [HN.out] at hcall;refine hcall.mono ?_
  cases hq:args.any (fun x=>!inR2 x 0 (f.regs - 1)) with
  | true=>
   rintro e W2 ⟨rfl,hb2⟩;have hT2:=hT.next hb2
   have HNO:=hid (show ¬ V from fun v=>by
    rw [(regsOk_iff f args).2 (HV.out.1 v).2] at hq; cases hq)
   clear HV hq hcall;go_wp2_with fail;go_ret;exact retE_no (by decide) HNO.out hT2.below
  | false=>
   rintro e W2 ⟨rfl,hb2⟩;have hT2:=hT.next hb2;have HY:=hid (show V from HV.out.2 ⟨HN.out.trans HL.out,(regsOk_iff f args).1 hq⟩);clear HV hq hcall;go_wp2_with fail;go_ret;exact retE_ok HY.out hT2.below
 ·have HNO:=hid (show ¬ V from fun v=>hl (HN.out.symm.trans (HV.out.1 v).1))
  have e1:((N:Int) != 2)=true:=by simp; omega
  have e3:(N != 2)=true:=by simp; omega
  clear hl HV;go_enter Tryz.func127,Tryz.ntmps127;go_wp2_with fail;go_ret;exact retE_no (by decide) HNO.out hT.below
end
section
open Go.RowKit
theorem args1 (p:Prg) (f:Fn) (i:Ins) (hal:i.args.length≤maxLen) (hr:0≤f.regs∧f.regs≤32) (hbr:inR2 i.b 0 ((p.funs.length:Int) - 1)=true) (w:World) (h:Lies w w.heap.size p) (ha:Rd w w.heap.size 1 i.argA i.args.length (i64s i.args)) :
  Calls Tryz.prog 127 #[ckVal p f,.int .i64 1,i.val] w (RetE (argsOk p f 1 i) w):=by
 obtain ⟨V,hV⟩:∃ V,V=argsOk p f 1 i:=⟨_,rfl⟩
 rw [← hV];have HV:=hid (iff_of_eq hV);clear hV;obtain ⟨op,a,b,c,args,argA,argC⟩:=i;unfold ckVal ckCells Ins.val Ins.cells;dsimp only at hal ha hbr ⊢;obtain ⟨N,hN⟩:∃ N,args.length=N:=⟨_,rfl⟩
 have halN:=hal;rw [hN] at hal ha ⊢;have HN:=hid hN;have haa:Rd w w.heap.size 1 argA args.length (i64s args):=by rw [hN]; exact ha
 have _hh:=h;have _hr:=hr;clear hN;unfold maxLen at hal;have hT:=two_new w #[.slice p.funA p.funs.length p.funC,.slice p.obA p.obs.length p.obC,.slice p.vrA p.vrs.length p.vrC,.string f.name,.int .i64 f.params,.int .i64 f.regs,.int .i64 f.prio,.bool f.clean,.slice f.codeA f.code.length f.codeC] #[.int .i64 op,.int .i64 a,.int .i64 b,.int .i64 c,.slice argA N argC] 144 63;obtain ⟨u,hu⟩:∃ u:Nat,b=(u:Int):=⟨b.toNat,by rw [inR2_iff] at hbr; omega⟩
 subst hu;have hul:u<p.funs.length:=by rw [inR2_iff] at hbr; omega
 have hul2:(u:Int)<(p.funs.length:Int):=by omega
 have hu0:=zi u;have hget:p.funs[((u:Nat):Int).toNat]? = some p.funs[u]:=by rw [show ((u:Nat):Int).toNat=u from by simp]; exact List.getElem?_eq_getElem hul
 obtain ⟨b8,off8,hA8,hb8,-,d,-,-,-,-⟩:=h.fn hul;rw [hA8] at hT ⊢;obtain ⟨z,hz⟩:∃ z,p.funs[u].params=z:=⟨_,rfl⟩
 rw [hz] at d;have d':=(hT.below.cell (p:=⟨b8,off8+u * 6+1,none⟩) hb8).trans d;have HZ:=hid hz;have HG:=hid hget;have HA8:=hid hA8;clear hz hget hbr hA8;by_cases hl:(N:Int)=z
 ·have HL:=hid hl
  have e1:((N:Int) != z)=false:=by simp; omega
  clear hl;go_enter Tryz.func127,Tryz.ntmps127;go_wp2_with fail
  try go_region
  try (go_wp2_with fail)
  have hT:Two w _ _ _:=hT;generalize World.alloc (World.alloc w _) _=W1 at hT ⊢;have hcall:=hasReg p f hr argA argC args w.heap.size W1 (Rd.more (Rd.below haa hT.below) hT.below.size) halN (by have:=hT.size; omega) (by have h9:=hT.fst; rw [HA8.out]; exact h9);rw [HN.out] at hcall;refine hcall.mono ?_
  cases hq:args.any (fun x=>!inR2 x 0 (f.regs - 1)) with
  | true=>
   rintro e W2 ⟨rfl,hb2⟩;have hT2:=hT.next hb2
   have HNO:=hid (show ¬ V from fun v=>by
    rw [(regsOk_iff f args).2 (HV.out.1 v).2] at hq; cases hq)
   clear HV hq hcall;go_wp2_with fail;go_ret;exact retE_no (by decide) HNO.out hT2.below
  | false=>
   rintro e W2 ⟨rfl,hb2⟩;have hT2:=hT.next hb2;have HY:=hid (show V from HV.out.2 ⟨⟨p.funs[u],HG.out,by rw [HZ.out]; exact (congrArg (fun n:Nat=>(n:Int)) HN.out).trans HL.out⟩,(regsOk_iff f args).1 hq⟩);clear HV hq hcall;go_wp2_with fail;go_ret;exact retE_ok HY.out hT2.below
 ·have HNO:=hid (show ¬ V from fun v=>by
   obtain ⟨g,e1,e2⟩:=(HV.out.1 v).1;rw [HG.out] at e1;injection e1 with e1;apply hl;rw [← HZ.out,e1,← e2,HN.out])
  have e1:((N:Int) != z)=true:=by simp; omega
  clear hl HV;go_enter Tryz.func127,Tryz.ntmps127;go_wp2_with fail
  try go_region
  try (go_wp2_with fail)
  go_ret;exact retE_no (by decide) HNO.out (by first | exact hT.below | exact hT.below.drew)
end
section
open Go.RowKit
variable {F:Fence} {n:Nat} {P:Program}

def SeqAb {α:Type} (F:Fence) (n:Nat) (P:Program) (g:Nat) (lb:Array Value) (encs:α→Array Value) (Ab Kp:World→World→Prop) (S Sp:List α→Prop) (Ok:List α→α→Prop) (w:World):Prop:=
 ∀ (l:Nat) (J Jx:List α→World→Prop) (W:World),Below w.heap.size w W→(∀ s A B,J s A→Ab A B→J s B)→(∀ s A B,Jx s A→Ab A B→Jx s B) →
  (∀ pre x W1,J pre W1→Ok pre x→YieldAt F (n - 1) P l (encs x) W1 fun e W'=>
   (e=.returned (.bool true)∧J (pre++[x]) W'∧Kp W1 W')∨(e=.returned (.bool false)∧Jx (pre++[x]) W')) →
  J [] W →
  CallsIn F n P g (#[.func (.yield l) #[] #[]]++lb) W fun e W'=>(∃ v,e=.returned v)∧((∃ xs,S xs∧J xs W')∨(∃ pre,Sp pre∧Jx pre W'))

theorem wpIn_rangeFunc_ab {α:Type} {g:Operand} {ps:Array Tmp} {assign body:Code} {Q:Exit→Act→World→Prop} {a:Act} {w:World}
  (hro:F.round=none) (h1:1≤n) {gf:Nat} {lb:Array Value} (hg:a.eval g=.func (.func gf) #[] lb) (hFg:F.fn gf) (eg:∀ args w,(callFunc gf args).run P w=.ok (.enter gf args) w)
  {encs:α→Array Value} {Ab Kp:World→World→Prop} {S Sp:List α→Prop} {Ok:List α→α→Prop} {w0:World} (hseq:SeqAb F (n - 1) P gf lb encs Ab Kp S Sp Ok w0)
  (hKt:∀ {A B C:World},Kp A B→Kp B C→Kp A C) (hKb:∀ (W:World) (l:Nat) (o o':Obj),w.heap.size≤l→W.heap[l]? = some o→o.isCells=false→o.isWalk=false→Kp W (W.putObj l o')) (hb0:Below w0.heap.size w0 w) (hps:∀ x,(encs x).size=ps.size)
  (hAb:∀ (A B:World) (k:Nat) (o:Obj),Ab A B→w.heap.size≤k→A.heap[k]? = some o→o.isCells=false→B.heap[k]? = some o)
  (I:List α→World→Prop) (Ix:Code→List α→World→Prop) (hI:OwnFrom w.heap.size I) (hIx:∀ c,OwnFrom w.heap.size (Ix c))
  (hIa:∀ s A B,I s A→Ab A B→I s B) (hIxa:∀ c s A B,Ix c s A→Ab A B→Ix c s B) (h0:I [] w) (Ax:α→Act→World→Prop) (hAx:∀ a',OwnFrom w.heap.size (fun x W=>Ax x a' W))
  (hassign:∀ (l:Nat) (pre:List α) (x:α) (W:World) (K:Act→World→Prop),I pre W →
   (∀ a' W',KeepsFrom w.heap.size W W'→Kp W W'→I pre W'→Ax x a' W'→K a' W') →
   assign.wpIn (F.inRound l) (n - 1 - 1) P (Exit.then K (fun _ _ _=>False)) { tmps:=(ps.zip (encs x)).foldl (fun t (p,v)=>t.setIfInBounds p v) a.tmps,defers:=[] } W)
  (hbody:∀ (l:Nat) (pre:List α) (x:α) (a':Act) (W:World),I pre W→Ax x a' W→Ok pre x→body.wpIn (F.inRound l) (n - 1 - 1) P (ownPostG w.heap.size Kp I Ix (pre++[x]) W) a' W)
  (hdone:∀ (D:Nat) (xs:List α) (W:World),w.heap.size≤D→S xs→I xs W→W.heap[D]? = some (.deferred (some []))→Q .normal { a with defers:={ target:=.collected D,args:=#[] }::a.defers } W)
  (hstop:∀ (D:Nat) (c:Code) (pre:List α) (W:World),w.heap.size≤D→Sp pre→Ix c pre W→W.heap[D]? = some (.deferred (some []))→c.wpIn F n P Q { a with defers:={ target:=.collected D,args:=#[] }::a.defers } W) :
  (Code.rangeFunc g ps assign body).wpIn F n P Q a w:=by
 refine wpIn_rangeFunc ?_;intro fn hfn;rw [hro];obtain ⟨rec,hrec⟩:∃ rec:LoopState→Option Code→Loop,rec=fun st pe=>{ state:=st,pending:=pe,fn,tmps:=a.tmps,params:=ps,assign,body,defers:=w.heap.size }:=⟨_,rfl⟩
 let R:LoopState→Option Code→World→Prop:=fun st pe W=>W.heap[w.heap.size+1]? = some (.loop (rec st pe))∧W.heap[w.heap.size]? = some (.deferred (some []))
 obtain ⟨W1,hW1⟩:∃ W1,(w.alloc (.deferred (some []))).alloc (.loop (rec .ready none))=W1:=⟨_,rfl⟩
 have hL1:R .ready none W1:=by
  rw [← hW1];refine ⟨?_,(Below.heap_alloc _ _ _ (by simp)).trans (World.alloc_heap_new w _)⟩;have:=World.alloc_heap_new (w.alloc (.deferred (some []))) (.loop (rec .ready none)); rwa [World.size_alloc] at this
 have hI1:I [] W1:=by rw [← hW1]; exact hI.alloc _ (hI.alloc _ h0)
 have hb1:Below w0.heap.size w0 W1:=by
  rw [← hW1]; exact hb0.trans ((((Below.refl _ w).alloc (Nat.le_refl _) _).alloc (by simp) _).mono hb0.size)
 have hRa:∀ st pe A B,R st pe A→Ab A B→R st pe B:=fun st pe A B hR hab=>⟨hAb A B _ _ hab (by omega) hR.1 rfl,hAb A B _ _ hab (Nat.le_refl _) hR.2 rfl⟩
 refine ⟨w.heap.size+1,[{ target:=.collected w.heap.size,args:=#[] }],W1,{ target:=.fn (.func gf) lb,args:=#[.func (.yield (w.heap.size+1)) #[] #[]] },W1,gf,
  #[.func (.yield (w.heap.size+1)) #[] #[]]++lb,W1,?_,?_,?_,?_,fun _=>h1,?_⟩
 ·rw [← hW1,hrec]; exact run_enterLoop_outer _ _ _ _ _
 ·simp only [resolve,hg]
  simp [go_sem]
 ·intro f' hf'; simp [Target.leads] at hf'; subst hf'; exact hFg
 ·simp [invoke,go_sem,eg]
 ·refine (hseq (w.heap.size+1) (fun pre W=>I pre W∧R .ready none W) (fun pre W=>∃ c,Ix c pre W∧R .done (some c) W) W1 hb1
   (fun s A B hs hab=>⟨hIa s A B hs.1 hab,hRa _ _ A B hs.2 hab⟩) (fun s A B hs hab=>by obtain ⟨c,hc,hr⟩:=hs; exact ⟨c,hIxa c s A B hc hab,hRa _ _ A B hr hab⟩) ?_ ⟨hI1,hL1⟩).mono ?_
  ·rintro pre x W ⟨hi,hl,hk⟩ hlen
   have hlt:w.heap.size+1<W.heap.size:=(Array.getElem?_eq_some_iff.1 hl).1;have hy:=run_yield (P:=P) (args:=encs x) hl (by rw [hrec]; exact hps x);rw [hrec] at hy;refine ⟨fn,_,assign,body,hy,roundIn_of_wpIn hfn (hassign _ pre x W _ hi ?_)⟩;intro a' W' hkf hkp0 hi hax;have hl:=hkf.same _ _ (by omega) hl rfl;have hk:=hkf.same _ _ (Nat.le_refl _) hk rfl;refine ⟨_,run_beginRound hl (by rw [hrec]),?_⟩;have hlt:w.heap.size+1<W'.heap.size:=(Array.getElem?_eq_some_iff.1 hl).1;have hl2:(W'.putObj (w.heap.size+1) (.loop { rec .ready none with state:=.busy })).heap[w.heap.size+1]? = some (.loop { rec .ready none with state:=.busy }):=World.putObj_heap_same hlt;have hk2:(W'.putObj (w.heap.size+1) (.loop { rec .ready none with state:=.busy })).heap[w.heap.size]? = some (.deferred (some [])):=(World.putObj_heap_other (by omega)).trans hk
   have hw2:Kp W' (W'.putObj (w.heap.size+1) (.loop { rec .ready none with state:=.busy })):=hKb _ _ _ _ (by omega) hl rfl rfl;refine wpIn_mono (hbody _ pre x a' _ (hI.putObj _ hi (by omega) hl rfl) ((hAx a').putObj _ hax (by omega) hl rfl) hlen) ?_
   have fin:∀ (jump:Option Code) (W3:World),KeepsFrom w.heap.size (W'.putObj (w.heap.size+1) (.loop { rec .ready none with state:=.busy })) W3 →
     (Instr.endRound (w.heap.size+1) jump).run P W3=.ok (.bool jump.isNone) (W3.putObj (w.heap.size+1) (.loop (rec (if jump.isNone then .ready else .done) jump))) ∧
     W3.heap[w.heap.size+1]? = some (.loop { rec .ready none with state:=.busy }) ∧
     R (if jump.isNone then .ready else .done) jump (W3.putObj (w.heap.size+1) (.loop (rec (if jump.isNone then .ready else .done) jump))):=fun jump W3 hk3=>by
    have hl3:=hk3.same _ _ (by omega) hl2 rfl;have:=run_endRound (P:=P) jump hl3;rw [hrec] at this hl3 ⊢;exact ⟨this,hl3,by rw [hrec]; exact World.putObj_heap_same (Array.getElem?_eq_some_iff.1 hl3).1,(World.putObj_heap_other (by omega)).trans (hk3.same _ _ (Nat.le_refl _) hk2 rfl)⟩
   rintro e a3 W3 hp
   cases e with
   | normal=>
    obtain ⟨hk3,hkp3,hi3⟩:=hp;obtain ⟨hr,hl3,hR⟩:=fin none W3 hk3;exact ⟨_,_,hr,.inl ⟨rfl,⟨hI.putObj _ hi3 (by omega) hl3 rfl,hR⟩,hKt (hKt (hKt hkp0 hw2) hkp3) (hKb _ _ _ _ (by omega) hl3 rfl rfl)⟩⟩
   | ret=>
    obtain ⟨hk3,hi3⟩:=hp;obtain ⟨hr,hl3,hR⟩:=fin (some .ret) W3 hk3;exact ⟨_,_,hr,.inr ⟨rfl,.ret,(hIx _).putObj _ hi3 (by omega) hl3 rfl,hR⟩⟩
   | exit id=>
    obtain ⟨hk3,hi3⟩:=hp;obtain ⟨hr,hl3,hR⟩:=fin (some (.exit id)) W3 hk3;exact ⟨_,_,hr,.inr ⟨rfl,.exit id,(hIx _).putObj _ hi3 (by omega) hl3 rfl,hR⟩⟩
   | goto t=>
    obtain ⟨hk3,hi3⟩:=hp;obtain ⟨hr,hl3,hR⟩:=fin (some (.goto t)) W3 hk3;exact ⟨_,_,hr,.inr ⟨rfl,.goto t,(hIx _).putObj _ hi3 (by omega) hl3 rfl,hR⟩⟩
   | panic ch=>exact hp.elim
   | outgrown=>exact hp.elim
  ·rintro e W2 ⟨⟨v,rfl⟩,(⟨xs,hS,hi,hl,hk⟩ | ⟨pre,hSp,c,hi,hl,hk⟩)⟩
   ·exact ⟨none,_,by have:=run_endLoop (P:=P) hl (by rw [hrec]; simp); rw [hrec] at this; exact this,hdone _ xs _ (Nat.le_refl _) hS (hI.putObj _ hi (by omega) hl rfl) ((World.putObj_heap_other (by omega)).trans hk)⟩
   ·exact ⟨some c,_,by have:=run_endLoop (P:=P) hl (by rw [hrec]; simp); rw [hrec] at this; exact this,hstop _ c pre _ (Nat.le_refl _) hSp ((hIx c).putObj _ hi (by omega) hl rfl) ((World.putObj_heap_other (by omega)).trans hk)⟩

#print axioms wpIn_rangeFunc_ab
end
section
open Go.RowKit Go.Shelf
attribute [local go_sem] Oper.semAt_some

def OnlyN (A B:World):Prop:=A.grownBy B none
def KeepsC (b:Nat) (A B:World):Prop:=B.heap[b]? = A.heap[b]?∧B.heap[b+1]? = A.heap[b+1]?
def chunkAt (A:Option Addr) (i:Nat):Value:=.slice (A.map fun x=>x.add i) 3 3

theorem chunk1_in (n:Nat) (hn:1≤n) (l b:Nat) (A:Option Addr) (c N M:Nat) (hM:M=3 * N) (hcap:M≤c) (hN:N<1000000) (J Jx:List Nat→World→Prop)
  (hJ:∀ s A B,J s A→OnlyN A B→J s B)
  (hY:∀ pre x W,J pre W→pre=List.range x∧x<N→YieldAt Fence.wide (n - 1) Tryz.prog l #[chunkAt A (3 * x)] W fun e W'=>
   (e=.returned (.bool true)∧J (pre++[x]) W'∧KeepsC b W W')∨(e=.returned (.bool false)∧Jx (pre++[x]) W'))
  (W:World) (hb0:Boxed W b 27 (.slice A M c)) (hb1:Boxed W (b+1) 3 (.int .i64 3)) (h0:J [] W) :
  CallsIn Fence.wide n Tryz.prog 159 #[.func (.yield l) #[] #[],.pointer (some ⟨b,0,none⟩),.pointer (some ⟨b+1,0,none⟩)] W fun e W'=>(∃ v,e=.returned v) ∧
   ((∃ ys,ys=List.range N∧J ys W')∨(∃ pre,True∧Jx pre W')):=by
 have HM:=hid hM;refine callsIn_of_wp Tryz.func159 rfl trivial ?_ rfl;simp only [Tryz.ntmps159,List.size_toArray,List.length_cons,List.length_nil,Nat.reduceAdd,Nat.reduceSub,Array.replicate_succ,Array.replicate_zero,List.push_toArray,List.append_toArray,List.nil_append,List.cons_append];clear hM;gi_wp2
 gi_loopw [4] (fun j wr=>∃ (i k:Nat),j=.int .i64 (i:Nat)∧Hid (i=3 * k)∧k≤N∧J (List.range k) wr∧Boxed wr b 27 (.slice A M c)∧Boxed wr (b+1) 3 (.int .i64 3))
  (fun j _=>M - (intOf j).toNat)
 case atStart=>exact ⟨0,0,rfl,hid rfl,by omega,h0,hb0,hb1⟩
 case round=>
  obtain ⟨i,k,rfl,HI,hk,hj,hx0,hx1⟩:=hrel;have hc0:=hx0.cell;have hc1:=hx1.cell;have hi0:=zi i;have hi1:(i:Int)≤3000000:=by have:=HI.out; omega
  have hMb:M≤3000000:=by have:=HM.out; omega
  by_cases hlt:i<M
  ·have hkN:k<N:=by have:=HI.out; have:=HM.out; omega
   have hd1:decide ((i:Int)<(M:Int))=true:=by simp; omega
   have hd2:decide (i<M)=true:=by simp; omega
   have hle:i+3≤M:=by have:=HI.out; have:=HM.out; omega
   have hs1:=fun W=>run_slice_from (P:=Tryz.prog) Tryz.underlying27 Tryz.sizeOf3 A (n:=M) (cap:=c) (l:=i) (by omega) .i64 W
   have hs2:=fun W=>run_slice_full (P:=Tryz.prog) Tryz.underlying27 Tryz.sizeOf3 A (n:=M) (cap:=c) (l:=i) (h:=i+3) (m:=i+3) (by omega) (by omega) (by omega) .i64 .i64 .i64 W
   have hmin:min (3:Int) ((M - i:Nat):Int)=3:=by omega
   have hs3:((i:Int)+3).toNat - i=3:=by omega
   gi_wp2;gi_big_quiet_th (fail);have hpl:List.range k=List.range k∧k<N:=⟨rfl,hkN⟩
   obtain ⟨fn,tmps,assign,body,hy2,hR2⟩:=hY (List.range k) k (wr.drewN nq) (hJ _ _ _ hj ⟨rfl,rfl,rfl,Nat.le_refl _,fun _ _ _=>rfl⟩) hpl;rw [← HI.out] at hy2;unfold chunkAt at hy2;gi_wp2;refine hR2.mono ?_;rintro e W3 (⟨rfl,hJ3,hk3,hk4⟩ | ⟨rfl,hJx3⟩)
   ·have hx03:Boxed W3 b 27 (.slice A M c):=hk3.trans hx0
    have hx13:Boxed W3 (b+1) 3 (.int .i64 3):=hk4.trans hx1;have hcl3:=hx03.cell;have hcl4:=hx13.cell;gi_wp2;exact ⟨⟨i+3,k+1,by go_num,hid (by have:=HI.out; omega),by omega,by rw [List.range_succ]; exact hJ3,hx03,hx13⟩,by simp [intOf]; omega⟩
   ·gi_wp2
    refine bodyPost_ret (results_none rfl _ _ _) rfl ?_;exact ⟨⟨_,rfl⟩,.inr ⟨_,trivial,hJx3⟩⟩
  ·have hd1:decide ((i:Int)<(M:Int))=false:=by simp; omega
   have hd2:decide (i<M)=false:=by simp; omega
   have hkN:k=N:=by have:=HI.out; have:=HM.out; omega
   subst hkN;gi_wp2;go_end0;exact ⟨⟨_,rfl⟩,.inl ⟨_,rfl,hj⟩⟩

theorem chunk_stops (n:Nat) (hn:1≤n) (b:Nat) (A:Option Addr) (c N M:Nat) (hM:M=3 * N) (hcap:M≤c) (hN:N<1000000) (w:World) (hb0:Boxed w b 27 (.slice A M c)) (hb1:Boxed w (b+1) 3 (.int .i64 3)) :
  SeqAb Fence.wide n Tryz.prog 159 #[.pointer (some ⟨b,0,none⟩),.pointer (some ⟨b+1,0,none⟩)] (fun x:Nat=>#[chunkAt A (3 * x)]) OnlyN (KeepsC b) (fun ys=>ys=List.range N) (fun _=>True) (fun pre x=>pre=List.range x∧x<N) w:=fun l J Jx W hW hJ _ hY h0=>
 chunk1_in n hn l b A c N M hM hcap hN J Jx hJ hY W ((hW.block b hb0.lt).trans hb0) ((hW.block (b+1) hb1.lt).trans hb1) h0

theorem chunk_in (n:Nat) (A:Option Addr) (k c:Nat) (w:World) :
  CallsIn Fence.wide n Tryz.prog 147 #[.slice A k c,.int .i64 3] w fun e w'=>e=.returned (.func (.func 159) #[] #[.pointer (some ⟨w.heap.size,0,none⟩),.pointer (some ⟨w.heap.size+1,0,none⟩)]) ∧
   w'=(w.alloc (.cells #[.slice A k c] 27)).alloc (.cells #[.int .i64 3] 3):=by
 refine callsIn_of_wp Tryz.func147 rfl trivial ?_ rfl;simp only [Tryz.ntmps147,List.size_toArray,List.length_cons,List.length_nil,Nat.reduceAdd,Nat.reduceSub,Array.replicate_succ,Array.replicate_zero,List.push_toArray,List.append_toArray,List.nil_append,List.cons_append];gi_wp2;go_ret;exact ⟨rfl,rfl⟩
end
section
open Go.RowKit

theorem rows_round {P:Program} {l n:Nat} {row:String} {args:Array Value} {w:World} {R:Value→World→Prop} (h:Rows P row args w R):RowsIn (Fence.wide.inRound l) n P row args w R:=fun c cs _=>
 let ⟨v,w',r,s⟩:=h c cs; ⟨v,w',r,stepsIn_wide.2 s⟩
theorem upon_round {P:Program} {l n:Nat} {o:Oper} {a:Act} {next:Act→World→Prop} {Q:Exit→Act→World→Prop}:∀ {r:Result Next},o.upon P a next Q r→o.uponIn (Fence.wide.inRound l) n P a next Q r
 | .ok (.value _) _,h=>h
 | .ok .skip _,h=>h
 | .ok (.defer _) _,h=>h
 | .ok (.enter _ _) _,h=>⟨fun e=>by simp [Fence.wide] at e,CallsIn.inRound l (callsIn_wide.2 (Calls.mono h (fun e w=>by cases e <;> exact id)))⟩
 | .ok (.row _ _) _,h=>⟨fun e=>by simp [Fence.wide] at e,rows_round h⟩
 | .ok (.round ..) _,h=>h.elim
 | .halt (.panic _) _,h=>h
 | .halt .goexit _,h=>h.elim
 | .halt .blocked _,h=>h.elim
 | .halt .waiting _,h=>h.elim
 | .halt (.stuck _) _,h=>h.elim
 | .halt (.unsupported _) _,h=>h.elim
theorem wpOp_round {P:Program} {ops:Array Oper} {l n i:Nat} {Q:Exit→Act→World→Prop} {K K':Act→World→Prop} {a:Act} {w:World} (hnd:∀ (j:Nat) (o:Oper),ops[j]? = some o→∀ c,o.op≠.defer c) (hQ:¬ LetsOut Q)
  (hK:∀ a w,K a w→K' a w) (h:wpOp P ops Q i K a w):wpOpIn (Fence.wide.inRound l) n P ops Q i K' a w:=by
 unfold wpOp at h;unfold wpOpIn
 cases ho:ops[i]? with
 | none=>rw [ho] at h; exact hK _ _ h
 | some o=>
  rw [ho] at h;simp only at h ⊢;by_cases hw:Region.wanted o (yielded ops a.tmps)=true
  ·rw [if_pos hw] at h ⊢
   refine ⟨fun _ _=>trivial,?_⟩;rw [Oper.semAt_eq _ _ _ (hnd i o ho)];rcases h with h | ⟨_,h⟩
   ·exact upon_round (Oper.wp_mono hK h)
   ·exact absurd h hQ
  ·rw [if_neg hw] at h ⊢
   exact ⟨fun _ _=>trivial,hK _ _ h⟩
theorem wpAny_round {P:Program} {ops:Array Oper} {l n:Nat} {md:Region.Mode} {Q:Exit→Act→World→Prop} (hnd:∀ (j:Nat) (o:Oper),ops[j]? = some o→∀ c,o.op≠.defer c) (hQ:¬ LetsOut Q) :
  ∀ (fuel:Nat) (listed:Array Bool) (a:Act) (w:World),wpAny P md ops Q fuel listed a w→wpAnyIn (Fence.wide.inRound l) n P md ops Q fuel listed a w
 | 0,_,_,_,h=>h
 | fuel+1,_,_,_,h=>⟨h.1,fun i hi=>wpOp_round hnd hQ (fun a w=>wpAny_round hnd hQ fuel _ a w) (h.2 i hi)⟩
def noDefer (l:List Oper):Bool:=l.all fun o=>match o.op with | .defer _=>false | _=>true
theorem noDefer_spec {ops:List Oper} (h:noDefer ops=true) (j:Nat) (o:Oper) (ho:ops.toArray[j]? = some o):∀ c,o.op≠.defer c:=by
 intro c e
 have hm:o∈ops:=by
  have:ops[j]? = some o:=by simpa using ho
  exact List.mem_of_getElem? this
 have:=List.all_eq_true.1 h o hm;rw [e] at this;simp at this
theorem wp_region_round {P:Program} {id l n:Nat} {ops:List Oper} {Q:Exit→Act→World→Prop} {S:World→Prop} {a:Act} {w:World} (hm:P.follows .mixedOrders=true) (hnd:noDefer ops=true) (hQ:¬ LetsOut Q) (hS:S w.drew)
  (h:S w.drew→wpAnyH P .any ops.toArray Q S ops.toArray.size (Array.replicate ops.toArray.size false) a w.drew):(Code.region id ops.toArray true).wpIn (Fence.wide.inRound l) n P Q a w:=
 wpIn_region_draw (F:=Fence.wide.inRound l) fun t=>by
  simp only [Region.schedule,hm,Bool.true_or,if_true];exact wpAnyIn_sound _ t _ a _ (wpAny_round (noDefer_spec hnd) hQ _ _ _ _ (wpAny_of_held _ _ _ _ (h hS)))

end
section
open Go.RowKit
theorem wp_round_any {P:Program} {id l n:Nat} {ops:List Oper} {Q:Exit→Act→World→Prop} {a:Act} {w:World} (hm:P.follows .mixedOrders=true) (hnd:noDefer ops=true) (hQ:¬ LetsOut Q)
  (h:wpAny P .any ops.toArray Q ops.toArray.size (Array.replicate ops.toArray.size false) a w.drew):(Code.region id ops.toArray true).wpIn (Fence.wide.inRound l) n P Q a w:=
 wpIn_region_draw (F:=Fence.wide.inRound l) fun t=>by
  simp only [Region.schedule,hm,Bool.true_or,if_true];exact wpAnyIn_sound _ t _ a _ (wpAny_round (noDefer_spec hnd) hQ _ _ _ _ h)
theorem wp_round_class {P:Program} {id k n:Nat} {l:List Oper} {Q:Exit→Act→World→Prop} {a:Act} {w:World} {C:World→Prop} (hm:P.follows .mixedOrders=true) (hnd:noDefer l=true) (hQ:¬ LetsOut Q) (hB:Region.lexB .any l.toArray=true) (hC:C w.drew)
  (h:wpQuiet P l.toArray C (fun a'=>∀ w',C w'→Q .normal a' w') l a):(Code.region id l.toArray true).wpIn (Fence.wide.inRound k) n P Q a w:=by
 simp only [Region.lexB,Bool.and_eq_true] at hB;refine wp_round_any hm hnd hQ (wpAny_of_quiet (Q:=fun a'=>∀ w',C w'→Q .normal a' w') (fun _ w' hw' h=>h w' hw') _ _ _ _ hC ?_);have:=wpAnyQ_lex (C:=C) (md:=.any) hB.1 l.toArray.toList 0 (Array.replicate l.toArray.size false) a (by simp) (by simpa using hB.2) (by simpa using h);simpa using this
theorem wp_round_quiet {P:Program} {id k n:Nat} {l:List Oper} {Q:Exit→Act→World→Prop} {a:Act} {w:World} (hm:P.follows .mixedOrders=true) (hnd:noDefer l=true) (hQ:¬ LetsOut Q) (hB:Region.lexB .any l.toArray=true)
  (h:wpQuiet P l.toArray (fun w'=>∃ n,w'=w.drewN n) (fun a'=>∀ w',(∃ n,w'=w.drewN n)→Q .normal a' w') l a):(Code.region id l.toArray true).wpIn (Fence.wide.inRound k) n P Q a w:=
 wp_round_class (C:=fun w'=>∃ n,w'=w.drewN n) hm hnd hQ hB ⟨1,rfl⟩ h
theorem wp_round_tail {P:Program} {id k m:Nat} {Q:Exit→Act→World→Prop} {a:Act} {w:World} {l:List Oper} (n:Nat) (hm:P.follows .mixedOrders=true) (hnd:noDefer l=true) (hQ:¬ LetsOut Q) (hB:Region.lexTailB .any l.toArray n=true)
  (h:wpStill P l.toArray w.drew (fun a'=>wpList P l.toArray Q (l.drop n) a' w.drew) (l.take n) a):(Code.region id l.toArray true).wpIn (Fence.wide.inRound k) m P Q a w:=by
 simp only [Region.lexTailB,Bool.and_eq_true,decide_eq_true_eq] at hB;obtain ⟨⟨⟨⟨hsel,hn⟩,hs⟩,hc⟩,hlex⟩:=hB;have hn':n<l.length:=by simpa using hn
 have htl:(l.take n).length=n:=by simp; omega
 have hdl:(l.drop n).length=l.toArray.size - n:=by simp
 have inv0:HeadInv .any l.toArray n (Array.replicate l.toArray.size false):=
  ⟨by simp,fun j oj _ hl=>(by rw [getD_replicate_false] at hl; cases hl),fun t _ ht=>getD_in (by simpa using ht) (getD_replicate_false _ _)⟩
 have H:=wpAnyL_lex (md:=.any) (g:=l.toArray.size - n) hsel hs hc hn (l.take n) 0 _ a (fun j hj=>by
  have hj':j<n:=by rw [htl] at hj; exact hj
  simp [hj']) (by simpa using htl) inv0 (by rw [htl]; exact hlex) h
 refine wp_round_any hm hnd hQ ?_
 have:=wpAny_of_head (Q':=Q) (g:=l.toArray.size - n) (fun listed a' hL=>by
  have:=wpAny_of_seq (md:=.any) (Q':=Q) (l.drop n) n listed a' w.drew (fun j=>by simp [List.getElem?_drop]) (by rw [hdl]; exact hL.1) hL.2
  rwa [hdl] at this) _ _ _ H
 rw [htl,show n+(l.toArray.size - n)=l.toArray.size by omega] at this;exact this
#print axioms wp_round_tail
end
end Go.Proofs.YtkpjdanfpolimaaGreat
