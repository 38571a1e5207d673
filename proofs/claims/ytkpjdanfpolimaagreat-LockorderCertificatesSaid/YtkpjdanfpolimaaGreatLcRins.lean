/- ref13.checkInstr, walked. Conditions: the program lies in memory. -/
import Derived.Test.YtkpjdanfpolimaaGreatLcIns
set_option maxRecDepth 100000
set_option maxHeartbeats 6400000
namespace Go.Proofs.YtkpjdanfpolimaaGreat
open Go.RowKit
theorem rargs_any (p:Prg) (f:Fn) (i:Ins) (r:Int) (g:Nat) (hrel:(r,g)∈roleArg) (h8:g=3↔i.op=67) (h9:g=1→inR2 i.b 0 ((p.funs.length:Int) - 1)=true) (hal:i.args.length≤maxLen) (hr:0≤f.regs∧f.regs≤32) (w:World) (h:Lies w w.heap.size p) (ha:Rd w w.heap.size 1 i.argA i.args.length (i64s i.args)) :
  Calls Tryz.prog 98 #[p.val,f.val,.int .u8 r,i.val] w (RetE (argsOk p f g i∧cflOk i) w):=by
 simp only [roleArg,List.mem_cons,List.not_mem_nil,or_false,Prod.mk.injEq] at hrel;rcases hrel with ⟨rfl,rfl⟩ | ⟨rfl,rfl⟩ | ⟨rfl,rfl⟩ | ⟨rfl,rfl⟩
 ·exact rargs0 p f i hal hr (fun e=>absurd (h8.2 e) (by decide)) w h ha
 ·exact rargs1 p f i hal hr (fun e=>absurd (h8.2 e) (by decide)) (h9 rfl) w h ha
 ·exact rargs2 p f i hal hr (fun e=>absurd (h8.2 e) (by decide)) w h ha
 ·exact rargs3 p f i hal hr (h8.1 rfl) w h ha
theorem opOk_fun {p:Prg} {f:Fn} {w:Nat} {kd n:Int} (h:opOk p f w kd n) (hw:w=8∨w=9):inR2 n 0 ((p.funs.length:Int) - 1)=true:=by
 rcases hw with rfl | rfl <;> exact h.1
theorem rins_any (p:Prg) (f:Fn) (hf:f∈p.funs) (i:Ins) (hal:i.args.length≤maxLen) (hr:0≤f.regs∧f.regs≤32) (w:World) (h:Lies w w.heap.size p) (ha:Rd w w.heap.size 1 i.argA i.args.length (i64s i.args)) :
  Calls Tryz.prog 80 #[p.val,f.val,i.val] w (RetE (insOk p f i) w):=by
 obtain ⟨V,hV⟩:∃ V,V=insOk p f i:=⟨_,rfl⟩
 rw [← hV];have HV:=hid (iff_of_eq hV);clear hV;have hT:=three_new w #[.slice p.funA p.funs.length p.funC,.slice p.obA p.obs.length p.obC,.slice p.vrA p.vrs.length p.vrC] #[.string f.name,.int .i64 f.params,.int .i64 f.regs,.int .i64 f.prio,.bool f.clean,.slice f.codeA f.code.length f.codeC] #[.int .i64 i.op,.int .i64 i.a,.int .i64 i.b,.int .i64 i.c,.slice i.argA i.args.length i.argC] 26 60 63;have hrole:=fun w=>role_any i.op w
 have htab:=tabOk_all i.op;unfold tabOk at htab
 cases hsh:shapeF i.op with
 | none=>
  rw [hsh] at htab;have hro:roleF i.op=[]:=by simpa using htab
  rw [hro] at hrole
  have HNO:=hid (show ¬ V from fun v=>by
   obtain ⟨_,_,_,_,_,_,_,e,_⟩:=HV.out.1 v;rw [hsh] at e; cases e)
  have HRO:=hid hrole;clear HV hrole htab hsh hro;go_enter Tryz.func80,Tryz.ntmps80;unfold Prg.val Fn.val Fn.cells Ins.val Ins.cells;go_wp2_with fail;generalize World.alloc (World.alloc (World.alloc w _) _) _=W1 at hT ⊢;refine (HRO.out _).mono ?_;rintro e W2 ⟨rfl,hb2⟩;have hT2:=hT.next hb2;go_wp2_with fail;go_ret;exact retE_no (by decide) HNO.out hT2.two.below
 | some l=>
  rw [hsh] at htab
  match l,hl7:roleF i.op,htab with
  | [w0,k0,w1,k1,w2,k2,g],[r0,r1,r2,r3],htab=>
   rw [hl7] at hrole;simp only [Bool.and_eq_true,decide_eq_true_eq] at htab;obtain ⟨⟨⟨⟨⟨⟨⟨⟨⟨t0,t1⟩,t2⟩,t3⟩,t4⟩,t5⟩,t6⟩,t7⟩,t8⟩,t9⟩:=htab;have HRO:=hid hrole
   have HV2:=hid (show V↔(f.clean=true→i.op∉forbL)∧opOk p f w0.toNat k0 i.a∧opOk p f w1.toNat k1 i.b∧opOk p f w2.toNat k2 i.c∧argsOk p f g.toNat i∧cflOk i from by
    rw [HV.out];constructor
    ·rintro ⟨_,_,_,_,_,_,_,e,h1⟩
     rw [hsh] at e;injection e with e;injection e with e0 e; injection e with e1 e; injection e with e2 e; injection e with e3 e; injection e with e4 e; injection e with e5 e; injection e with e6 e;subst e0; subst e1; subst e2; subst e3; subst e4; subst e5; subst e6;exact h1
    ·intro h1
     exact ⟨_,_,_,_,_,_,_,hsh,h1⟩)
   have HT0:=hid t0;have HT1:=hid t1;have HT2:=hid t2;have HT3:=hid t3;have HT8:=hid t8;have HT9:=hid t9;clear HV hrole hsh hl7 t0 t1 t2 t3 t4 t5 t6 t7 t8 t9;go_enter Tryz.func80,Tryz.ntmps80;unfold Prg.val Fn.val Fn.cells Ins.val Ins.cells;go_wp2_with fail;generalize World.alloc (World.alloc (World.alloc w _) _) _=W1 at hT ⊢;refine (HRO.out _).mono ?_;rintro e W2 ⟨rfl,hb2⟩;have hT2:=hT.next hb2;obtain ⟨x0,x1,x2⟩:=bx3 hT2.two.fst;obtain ⟨y0,y1,y2,y3,y4,y5⟩:=bx6 hT2.two.snd;obtain ⟨z0,z1,z2,z3,z4⟩:=bx5 hT2.thd
   cases hcl:f.clean with
   | true=>
    rw [hcl] at y4;go_wp2_with fail;refine (refForb_any i.op _).mono ?_;by_cases hfo:i.op∈forbL
    ·rw [decide_eq_true hfo]
     rintro e W3 ⟨rfl,hb3⟩;have hT3:=hT2.next hb3;have HNO:=hid (show ¬ V from fun z=>(HV2.out.1 z).1 hcl hfo);clear HV2 hfo;go_wp2_with fail;go_ret;exact retE_no (by decide) HNO.out hT3.two.below
    ·rw [decide_eq_false hfo]
     rintro e W3 ⟨rfl,hb3⟩;have hT3:=hT2.next hb3;rw [hcl] at hT3;obtain ⟨xx0,xx1,xx2⟩:=bx3 hT3.two.fst;obtain ⟨yy0,yy1,yy2,yy3,yy4,yy5⟩:=bx6 hT3.two.snd;obtain ⟨zz0,zz1,zz2,zz3,zz4⟩:=bx5 hT3.thd;have HFO:=hid hfo;clear hfo x0 x1 x2 y0 y1 y2 y3 y4 y5 z0 z1 z2 z3 z4;go_wp2_with fail;have hF0:=bx_new W3 #[.int .i64 i.a,.int .i64 i.b,.int .i64 i.c] 3;have hS0:(W3.alloc (.cells #[.int .i64 i.a,.int .i64 i.b,.int .i64 i.c] 3)).heap.size=W3.heap.size+1:=by simp
     have hT0:=hT3.next (below_alloc W3 (.cells #[.int .i64 i.a,.int .i64 i.b,.int .i64 i.c] 3));have hop:=fun (n r:Int) (what:Nat) (kd:Int) (hrel:(r,what,kd)∈roleRel) w h=>ropd_any p f hf n r what kd hrel hr w h
     have harg:=fun (h8:g.toNat=3↔i.op=67) (h9:g.toNat=1→inR2 i.b 0 ((p.funs.length:Int) - 1)=true) w h ha=>rargs_any p f i (r3.toNat:Int) g.toNat HT3.out h8 h9 hal hr w h ha
     unfold Prg.val Fn.val Fn.cells at hop harg;unfold Ins.val Ins.cells at harg;rw [hcl] at hop harg;have HOP:=hid hop;have HARG:=hid harg;clear hop harg;obtain ⟨A,hA⟩:∃ A,A=opOk p f w0.toNat k0 i.a:=⟨_,rfl⟩
     obtain ⟨B,hB⟩:∃ B,B=opOk p f w1.toNat k1 i.b:=⟨_,rfl⟩
     obtain ⟨C,hC⟩:∃ C,C=opOk p f w2.toNat k2 i.c:=⟨_,rfl⟩
     have HA:=hid hA;have HB:=hid hB;have HC:=hid hC;have HVA:=hid (show V↔A∧B∧C∧argsOk p f g.toNat i∧cflOk i from by rw [HV2.out,hA,hB,hC]; exact ⟨fun z=>z.2,fun z=>⟨fun _=>HFO.out,z⟩⟩);clear hA hB hC HV2;generalize World.alloc W3 _=W9 at hF0 hS0 hT0 ⊢
     go_loopw [9] (fun k' wr=>∃ k:Nat,k'=.int .i64 k∧k≤3∧Hid ((0<k→A)∧(1<k→B)∧(2<k→C))∧Three w wr [.slice p.funA p.funs.length p.funC,.slice p.obA p.obs.length p.obC,.slice p.vrA p.vrs.length p.vrC] [.string f.name,.int .i64 f.params,.int .i64 f.regs,.int .i64 f.prio,.bool true,.slice f.codeA f.code.length f.codeC] [.int .i64 i.op,.int .i64 i.a,.int .i64 i.b,.int .i64 i.c,.slice i.argA i.args.length i.argC]∧Bx wr W3.heap.size [.int .i64 i.a,.int .i64 i.b,.int .i64 i.c]∧W3.heap.size<wr.heap.size) (fun k' _=>3 - (intOf k').toNat)
     case atStart=>exact ⟨0,rfl,by omega,hid ⟨fun e=>by omega,fun e=>by omega,fun e=>by omega⟩,hT0,hF0,by omega⟩
     case round=>
      obtain ⟨k,rfl,hk,hab,hTr,hFr,hGr⟩:=hrel;obtain ⟨f0,f1,f2⟩:=bx3 hFr;obtain ⟨x0,x1,x2⟩:=bx3 hTr.two.fst;obtain ⟨y0,y1,y2,y3,y4,y5⟩:=bx6 hTr.two.snd;obtain ⟨z0,z1,z2,z3,z4⟩:=bx5 hTr.thd;by_cases hlt:k<3
      ·have hk3:k=0∨k=1∨k=2:=by omega
       clear hlt hk;rcases hk3 with rfl | rfl | rfl
       ·go_wp2_with fail
        go_still_tail 9,(by kernel_rfl)
        change wpList _ _ _ _ _ wr.drew;have hTd:=hTr.next (below_drews _ _ 1);have hFd:=hFr.below (below_drews wr.heap.size wr 1) hGr;have hGd:W3.heap.size<(wr.drewN 1).heap.size:=hGr;change Three w wr.drew _ _ _ at hTd;change Bx wr.drew _ _ at hFd;change W3.heap.size<wr.drew.heap.size at hGd;generalize wr.drew=wd at hTd hFd hGd ⊢;go_wp2_with fail;refine (HOP.out i.a _ _ _ HT0.out _ (h.next hTd.two.below)).mono ?_;rw [← HA.out];rintro e w5 ⟨v,rfl,hv,hb5⟩;have hT5:=hTd.next hb5;have hF5:=hFd.below hb5 hGd;have hG5:W3.heap.size<w5.heap.size:=by have:=hb5.size; omega
        by_cases hv0:v=0
        ·have HP:=hid (hv.1 hv0)
         subst hv0;clear hv;go_wp2_with fail;exact ⟨⟨1,rfl,by omega,hid ⟨fun _=>HP.out,fun e=>by omega,fun e=>by omega⟩,hT5,hF5,hG5⟩,by simp [intOf]⟩
        ·have HNO:=hid (show ¬ V from fun z=>hv0 (hv.2 (HVA.out.1 z).1))
         have e1:(v != 0)=true:=by simpa using hv0
         have HV0:=hid hv0;clear hv hv0;go_wp2_with fail;go_ret;exact retE_no HV0.out HNO.out hT5.two.below
       ·go_wp2_with fail
        go_still_tail 9,(by kernel_rfl)
        change wpList _ _ _ _ _ wr.drew;have hTd:=hTr.next (below_drews _ _ 1);have hFd:=hFr.below (below_drews wr.heap.size wr 1) hGr;have hGd:W3.heap.size<(wr.drewN 1).heap.size:=hGr;change Three w wr.drew _ _ _ at hTd;change Bx wr.drew _ _ at hFd;change W3.heap.size<wr.drew.heap.size at hGd;generalize wr.drew=wd at hTd hFd hGd ⊢;go_wp2_with fail;refine (HOP.out i.b _ _ _ HT1.out _ (h.next hTd.two.below)).mono ?_;rw [← HB.out];rintro e w5 ⟨v,rfl,hv,hb5⟩;have hT5:=hTd.next hb5;have hF5:=hFd.below hb5 hGd;have hG5:W3.heap.size<w5.heap.size:=by have:=hb5.size; omega
        by_cases hv0:v=0
        ·have HP:=hid (hv.1 hv0)
         subst hv0;clear hv;go_wp2_with fail;exact ⟨⟨2,rfl,by omega,hid ⟨fun _=>hab.out.1 (by omega),fun _=>HP.out,fun e=>by omega⟩,hT5,hF5,hG5⟩,by simp [intOf]⟩
        ·have HNO:=hid (show ¬ V from fun z=>hv0 (hv.2 (HVA.out.1 z).2.1))
         have e1:(v != 0)=true:=by simpa using hv0
         have HV0:=hid hv0;clear hv hv0;go_wp2_with fail;go_ret;exact retE_no HV0.out HNO.out hT5.two.below
       ·go_wp2_with fail
        go_still_tail 9,(by kernel_rfl)
        change wpList _ _ _ _ _ wr.drew;have hTd:=hTr.next (below_drews _ _ 1);have hFd:=hFr.below (below_drews wr.heap.size wr 1) hGr;have hGd:W3.heap.size<(wr.drewN 1).heap.size:=hGr;change Three w wr.drew _ _ _ at hTd;change Bx wr.drew _ _ at hFd;change W3.heap.size<wr.drew.heap.size at hGd;generalize wr.drew=wd at hTd hFd hGd ⊢;go_wp2_with fail;refine (HOP.out i.c _ _ _ HT2.out _ (h.next hTd.two.below)).mono ?_;rw [← HC.out];rintro e w5 ⟨v,rfl,hv,hb5⟩;have hT5:=hTd.next hb5;have hF5:=hFd.below hb5 hGd;have hG5:W3.heap.size<w5.heap.size:=by have:=hb5.size; omega
        by_cases hv0:v=0
        ·have HP:=hid (hv.1 hv0)
         subst hv0;clear hv;go_wp2_with fail;exact ⟨⟨3,rfl,by omega,hid ⟨fun _=>hab.out.1 (by omega),fun _=>hab.out.2.1 (by omega),fun _=>HP.out⟩,hT5,hF5,hG5⟩,by simp [intOf]⟩
        ·have HNO:=hid (show ¬ V from fun z=>hv0 (hv.2 (HVA.out.1 z).2.2.1))
         have e1:(v != 0)=true:=by simpa using hv0
         have HV0:=hid hv0;clear hv hv0;go_wp2_with fail;go_ret;exact retE_no HV0.out HNO.out hT5.two.below
      ·obtain rfl:k=3:=by omega
       have h89:(g.toNat=3↔i.op=67):=by
        have:=eq_of_beq HT8.out
        have h10:g=3↔i.op=67:=by
         constructor
         ·intro e; exact of_decide_eq_true (this ▸ decide_eq_true e)
         ·intro e; exact of_decide_eq_true (this.symm ▸ decide_eq_true e)
        rw [← h10]; omega
       have h99:g.toNat=1→inR2 i.b 0 ((p.funs.length:Int) - 1)=true:=fun e=>by
        have h11:=HT9.out;have hBB:=hab.out.2.1 (by omega);rw [HB.out] at hBB;refine opOk_fun hBB ?_;simp only [Bool.or_eq_true,Bool.not_eq_true',decide_eq_false_iff_not,decide_eq_true_eq] at h11;omega
       clear hk hlt;go_wp2_with fail;go_still_tail 5,(by kernel_rfl)
       change wpList _ _ _ _ _ wr.drew;have hTd:=hTr.next (below_drews _ _ 1);change Three w wr.drew _ _ _ at hTd;generalize wr.drew=wd at hTd ⊢;go_wp2_with fail;refine (HARG.out h89 h99 _ (h.next hTd.two.below) (Rd.more (Rd.below ha hTd.two.below) hTd.two.below.size)).mono ?_;rintro e w5 ⟨v,rfl,hv,hb5⟩;have hT5:=hTd.next hb5
       have HY:=hid (show v=0↔V from by
        rw [hv,HVA.out];exact ⟨fun z=>⟨hab.out.1 (by omega),hab.out.2.1 (by omega),hab.out.2.2 (by omega),z⟩,fun z=>z.2.2.2⟩)
       clear hv;go_wp2_with fail;go_ret;exact ⟨v,rfl,HY.out,hT5.two.below⟩
   | false=>
    rw [hcl] at y4 hT2;go_wp2_with fail;have hF0:=bx_new W2 #[.int .i64 i.a,.int .i64 i.b,.int .i64 i.c] 3;have hS0:(W2.alloc (.cells #[.int .i64 i.a,.int .i64 i.b,.int .i64 i.c] 3)).heap.size=W2.heap.size+1:=by simp
    have hT0:=hT2.next (below_alloc W2 (.cells #[.int .i64 i.a,.int .i64 i.b,.int .i64 i.c] 3));have hop:=fun (n r:Int) (what:Nat) (kd:Int) (hrel:(r,what,kd)∈roleRel) w h=>ropd_any p f hf n r what kd hrel hr w h
    have harg:=fun (h8:g.toNat=3↔i.op=67) (h9:g.toNat=1→inR2 i.b 0 ((p.funs.length:Int) - 1)=true) w h ha=>rargs_any p f i (r3.toNat:Int) g.toNat HT3.out h8 h9 hal hr w h ha
    unfold Prg.val Fn.val Fn.cells at hop harg;unfold Ins.val Ins.cells at harg;rw [hcl] at hop harg;have HOP:=hid hop;have HARG:=hid harg;clear hop harg;obtain ⟨A,hA⟩:∃ A,A=opOk p f w0.toNat k0 i.a:=⟨_,rfl⟩
    obtain ⟨B,hB⟩:∃ B,B=opOk p f w1.toNat k1 i.b:=⟨_,rfl⟩
    obtain ⟨C,hC⟩:∃ C,C=opOk p f w2.toNat k2 i.c:=⟨_,rfl⟩
    have HA:=hid hA;have HB:=hid hB;have HC:=hid hC;have HVA:=hid (show V↔A∧B∧C∧argsOk p f g.toNat i∧cflOk i from by rw [HV2.out,hA,hB,hC]; exact ⟨fun z=>z.2,fun z=>⟨fun e=>absurd (hcl.symm.trans e) (by decide),z⟩⟩);clear hA hB hC HV2;generalize World.alloc W2 _=W9 at hF0 hS0 hT0 ⊢
    go_loopw [9] (fun k' wr=>∃ k:Nat,k'=.int .i64 k∧k≤3∧Hid ((0<k→A)∧(1<k→B)∧(2<k→C))∧Three w wr [.slice p.funA p.funs.length p.funC,.slice p.obA p.obs.length p.obC,.slice p.vrA p.vrs.length p.vrC] [.string f.name,.int .i64 f.params,.int .i64 f.regs,.int .i64 f.prio,.bool false,.slice f.codeA f.code.length f.codeC] [.int .i64 i.op,.int .i64 i.a,.int .i64 i.b,.int .i64 i.c,.slice i.argA i.args.length i.argC]∧Bx wr W2.heap.size [.int .i64 i.a,.int .i64 i.b,.int .i64 i.c]∧W2.heap.size<wr.heap.size) (fun k' _=>3 - (intOf k').toNat)
    case atStart=>exact ⟨0,rfl,by omega,hid ⟨fun e=>by omega,fun e=>by omega,fun e=>by omega⟩,hT0,hF0,by omega⟩
    case round=>
     obtain ⟨k,rfl,hk,hab,hTr,hFr,hGr⟩:=hrel;obtain ⟨f0,f1,f2⟩:=bx3 hFr;obtain ⟨x0,x1,x2⟩:=bx3 hTr.two.fst;obtain ⟨y0,y1,y2,y3,y4,y5⟩:=bx6 hTr.two.snd;obtain ⟨z0,z1,z2,z3,z4⟩:=bx5 hTr.thd;by_cases hlt:k<3
     ·have hk3:k=0∨k=1∨k=2:=by omega
      clear hlt hk;rcases hk3 with rfl | rfl | rfl
      ·go_wp2_with fail
       go_still_tail 9,(by kernel_rfl)
       change wpList _ _ _ _ _ wr.drew;have hTd:=hTr.next (below_drews _ _ 1);have hFd:=hFr.below (below_drews wr.heap.size wr 1) hGr;have hGd:W2.heap.size<(wr.drewN 1).heap.size:=hGr;change Three w wr.drew _ _ _ at hTd;change Bx wr.drew _ _ at hFd;change W2.heap.size<wr.drew.heap.size at hGd;generalize wr.drew=wd at hTd hFd hGd ⊢;go_wp2_with fail;refine (HOP.out i.a _ _ _ HT0.out _ (h.next hTd.two.below)).mono ?_;rw [← HA.out];rintro e w5 ⟨v,rfl,hv,hb5⟩;have hT5:=hTd.next hb5;have hF5:=hFd.below hb5 hGd;have hG5:W2.heap.size<w5.heap.size:=by have:=hb5.size; omega
       by_cases hv0:v=0
       ·have HP:=hid (hv.1 hv0)
        subst hv0;clear hv;go_wp2_with fail;exact ⟨⟨1,rfl,by omega,hid ⟨fun _=>HP.out,fun e=>by omega,fun e=>by omega⟩,hT5,hF5,hG5⟩,by simp [intOf]⟩
       ·have HNO:=hid (show ¬ V from fun z=>hv0 (hv.2 (HVA.out.1 z).1))
        have e1:(v != 0)=true:=by simpa using hv0
        have HV0:=hid hv0;clear hv hv0;go_wp2_with fail;go_ret;exact retE_no HV0.out HNO.out hT5.two.below
      ·go_wp2_with fail
       go_still_tail 9,(by kernel_rfl)
       change wpList _ _ _ _ _ wr.drew;have hTd:=hTr.next (below_drews _ _ 1);have hFd:=hFr.below (below_drews wr.heap.size wr 1) hGr;have hGd:W2.heap.size<(wr.drewN 1).heap.size:=hGr;change Three w wr.drew _ _ _ at hTd;change Bx wr.drew _ _ at hFd;change W2.heap.size<wr.drew.heap.size at hGd;generalize wr.drew=wd at hTd hFd hGd ⊢;go_wp2_with fail;refine (HOP.out i.b _ _ _ HT1.out _ (h.next hTd.two.below)).mono ?_;rw [← HB.out];rintro e w5 ⟨v,rfl,hv,hb5⟩;have hT5:=hTd.next hb5;have hF5:=hFd.below hb5 hGd;have hG5:W2.heap.size<w5.heap.size:=by have:=hb5.size; omega
       by_cases hv0:v=0
       ·have HP:=hid (hv.1 hv0)
        subst hv0;clear hv;go_wp2_with fail;exact ⟨⟨2,rfl,by omega,hid ⟨fun _=>hab.out.1 (by omega),fun _=>HP.out,fun e=>by omega⟩,hT5,hF5,hG5⟩,by simp [intOf]⟩
       ·have HNO:=hid (show ¬ V from fun z=>hv0 (hv.2 (HVA.out.1 z).2.1))
        have e1:(v != 0)=true:=by simpa using hv0
        have HV0:=hid hv0;clear hv hv0;go_wp2_with fail;go_ret;exact retE_no HV0.out HNO.out hT5.two.below
      ·go_wp2_with fail
       go_still_tail 9,(by kernel_rfl)
       change wpList _ _ _ _ _ wr.drew;have hTd:=hTr.next (below_drews _ _ 1);have hFd:=hFr.below (below_drews wr.heap.size wr 1) hGr;have hGd:W2.heap.size<(wr.drewN 1).heap.size:=hGr;change Three w wr.drew _ _ _ at hTd;change Bx wr.drew _ _ at hFd;change W2.heap.size<wr.drew.heap.size at hGd;generalize wr.drew=wd at hTd hFd hGd ⊢;go_wp2_with fail;refine (HOP.out i.c _ _ _ HT2.out _ (h.next hTd.two.below)).mono ?_;rw [← HC.out];rintro e w5 ⟨v,rfl,hv,hb5⟩;have hT5:=hTd.next hb5;have hF5:=hFd.below hb5 hGd;have hG5:W2.heap.size<w5.heap.size:=by have:=hb5.size; omega
       by_cases hv0:v=0
       ·have HP:=hid (hv.1 hv0)
        subst hv0;clear hv;go_wp2_with fail;exact ⟨⟨3,rfl,by omega,hid ⟨fun _=>hab.out.1 (by omega),fun _=>hab.out.2.1 (by omega),fun _=>HP.out⟩,hT5,hF5,hG5⟩,by simp [intOf]⟩
       ·have HNO:=hid (show ¬ V from fun z=>hv0 (hv.2 (HVA.out.1 z).2.2.1))
        have e1:(v != 0)=true:=by simpa using hv0
        have HV0:=hid hv0;clear hv hv0;go_wp2_with fail;go_ret;exact retE_no HV0.out HNO.out hT5.two.below
     ·obtain rfl:k=3:=by omega
      have h89:(g.toNat=3↔i.op=67):=by
       have:=eq_of_beq HT8.out
       have h10:g=3↔i.op=67:=by
        constructor
        ·intro e; exact of_decide_eq_true (this ▸ decide_eq_true e)
        ·intro e; exact of_decide_eq_true (this.symm ▸ decide_eq_true e)
       rw [← h10]; omega
      have h99:g.toNat=1→inR2 i.b 0 ((p.funs.length:Int) - 1)=true:=fun e=>by
       have h11:=HT9.out;have hBB:=hab.out.2.1 (by omega);rw [HB.out] at hBB;refine opOk_fun hBB ?_;simp only [Bool.or_eq_true,Bool.not_eq_true',decide_eq_false_iff_not,decide_eq_true_eq] at h11;omega
      clear hk hlt;go_wp2_with fail;go_still_tail 5,(by kernel_rfl)
      change wpList _ _ _ _ _ wr.drew;have hTd:=hTr.next (below_drews _ _ 1);change Three w wr.drew _ _ _ at hTd;generalize wr.drew=wd at hTd ⊢;go_wp2_with fail;refine (HARG.out h89 h99 _ (h.next hTd.two.below) (Rd.more (Rd.below ha hTd.two.below) hTd.two.below.size)).mono ?_;rintro e w5 ⟨v,rfl,hv,hb5⟩;have hT5:=hTd.next hb5
      have HY:=hid (show v=0↔V from by
       rw [hv,HVA.out];exact ⟨fun z=>⟨hab.out.1 (by omega),hab.out.2.1 (by omega),hab.out.2.2 (by omega),z⟩,fun z=>z.2.2.2⟩)
      clear hv;go_wp2_with fail;go_ret;exact ⟨v,rfl,HY.out,hT5.two.below⟩
end Go.Proofs.YtkpjdanfpolimaaGreat
