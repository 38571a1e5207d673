/- ref13.checkArgs of a select, walked. Conditions: the program lies in memory. -/
import Derived.Test.YtkpjdanfpolimaaGreatLcRcase
import Derived.StillTailTactics
set_option maxRecDepth 100000
set_option maxHeartbeats 6400000
namespace Go.Proofs.YtkpjdanfpolimaaGreat
open Go.RowKit
theorem rargs3 (p:Prg) (f:Fn) (i:Ins) (hal:i.args.length≤maxLen) (hr:0≤f.regs∧f.regs≤32) (h67:i.op=67) (w:World) (h:Lies w w.heap.size p) (ha:Rd w w.heap.size 1 i.argA i.args.length (i64s i.args)) :
  Calls Tryz.prog 98 #[p.val,f.val,.int .u8 115,i.val] w (RetE (argsOk p f 3 i∧cflOk i) w):=by
 obtain ⟨V,hV⟩:∃ V,V=(argsOk p f 3 i∧cflOk i):=⟨_,rfl⟩
 rw [← hV];have HV:=hid (iff_of_eq hV);clear hV;obtain ⟨op,a,b,c,args,argA,argC⟩:=i;unfold Prg.val Fn.val Fn.cells Ins.val Ins.cells;dsimp only at hal h67 ha ⊢;subst h67;obtain ⟨N,hN⟩:∃ N,args.length=N:=⟨_,rfl⟩
 rw [hN] at hal ha ⊢;have HN:=hid hN;clear hN;unfold maxLen at hal;have _hh:=h;have hT:=three_new w #[.slice p.funA p.funs.length p.funC,.slice p.obA p.obs.length p.obC,.slice p.vrA p.vrs.length p.vrC] #[.string f.name,.int .i64 f.params,.int .i64 f.regs,.int .i64 f.prio,.bool f.clean,.slice f.codeA f.code.length f.codeC] #[.int .i64 67,.int .i64 a,.int .i64 b,.int .i64 c,.slice argA N argC] 26 60 63;have hwr:IntKind.i64.wrap (f.regs - 1)=f.regs - 1:=by rw [IntKind.wrap_i64]; omega
 by_cases hl:N≠0∧N % 3=0∧N≤18
 ·have HL:=hid hl
  have e1:((N:Int) == 0)=false:=by simp; omega
  have e2:((N:Int) % 3 != 0)=false:=by simp; omega
  have e2':((N:Int).tmod 3 != 0)=false:=by rw [Int.tmod_eq_emod_of_nonneg (by omega)]; exact e2
  have e3:=Df (show ¬ (18:Int)<N by omega);have e4:(N == 0)=false:=by simp; omega
  have e5:=Df (show ¬ (18<N) by omega);clear hl;go_enter Tryz.func98,Tryz.ntmps98;go_wp2_with fail;generalize World.alloc (World.alloc (World.alloc w _) _) _=W1 at hT ⊢;go_loopw [10,11] (fun d k' wr=>∃ k D:Nat,d=.int .i64 (D:Nat)∧k'=.int .i64 k∧k≤N∧Hid (D=dcnt args ((k+2) / 3))∧Hid (casesTo p f args ((k+2) / 3))∧Three w wr [.slice p.funA p.funs.length p.funC,.slice p.obA p.obs.length p.obC,.slice p.vrA p.vrs.length p.vrC] [.string f.name,.int .i64 f.params,.int .i64 f.regs,.int .i64 f.prio,.bool f.clean,.slice f.codeA f.code.length f.codeC] [.int .i64 67,.int .i64 a,.int .i64 b,.int .i64 c,.slice argA N argC]) (fun _ k' _=>N - (intOf k').toNat)
  case atStart=>exact ⟨0,0,rfl,rfl,by omega,hid rfl,hid (fun j hj=>by omega),hT⟩
  case round=>
   obtain ⟨k,D,rfl,rfl,hk,HD,hall,hTr⟩:=hrel;obtain ⟨x0,x1,x2⟩:=bx3 hTr.two.fst;obtain ⟨y0,y1,y2,y3,y4,y5⟩:=bx6 hTr.two.snd;obtain ⟨z0,z1,z2,z3,z4⟩:=bx5 hTr.thd;have hk0:=zi k
   have hDl:D≤100:=by
    have h1:∀ m,dcnt args m≤m:=fun m=>by
     induction m with
     | zero=>exact Nat.le_refl _
     | succ m ih=>rw [dcnt]; split <;> omega
    have:=h1 ((k+2) / 3); rw [← HD.out] at this; have:=HL.out; omega
   by_cases hlt:k<N
   ·have hwr1:=Wi k (by omega)
    have hwr2:IntKind.i64.wrap ((k:Int)+2)=(k:Int)+2:=by have:=HL.out; rw [IntKind.wrap_i64]; omega
    have hwr3:=Wi D (by omega);have hd1:=Dt (show (k:Int)<N by omega);have hd2:=Dt hlt;have hlt2:(k:Int)<(N:Int):=by omega
    by_cases hm3:k % 3=0
    ·have m1:((k:Int) % 3 != 0)=false:=by simp; omega
     have m2:((k:Int).tmod 3 != 0)=false:=by rw [Int.tmod_eq_emod_of_nonneg (by omega)]; exact m1
     have hk3:k+2<N:=by have:=HL.out; omega
     have hlt3:(k:Int)+1<(N:Int):=by omega
     have hlt4:(k:Int)+2<(N:Int):=by omega
     have hk1':(0:Int)≤(k:Int)+1:=by omega
     have hk2':(0:Int)≤(k:Int)+2:=by omega
     have ht1:((k:Int)+1).toNat=k+1:=by omega
     have ht2:((k:Int)+2).toNat=k+2:=by omega
     have hkl:k+2<args.length:=by rw [HN.out]; exact hk3
     obtain ⟨b9,off9,hA9,hb9,hcl⟩:=(ha.below hTr.two.below).addr (by omega);subst hA9;have q0:=hcl k _ (i64s_at args k (by omega));have q1:=hcl (k+1) _ (i64s_at args (k+1) (by omega));have q2:=hcl (k+2) _ (i64s_at args (k+2) (by omega));obtain ⟨u0,hu0⟩:∃ u,args[k]=u:=⟨_,rfl⟩
     obtain ⟨u1,hu1⟩:∃ u,args[k+1]=u:=⟨_,rfl⟩
     obtain ⟨u2,hu2⟩:∃ u,args[k+2]=u:=⟨_,rfl⟩
     rw [hu0] at q0;rw [hu1] at q1;rw [hu2] at q2;have hj:3 * (k / 3)=k:=by omega
     have G0:args.getD (3 * (k / 3)) 0=u0:=by rw [hj,← hu0]; simp [List.getD,show k<args.length by omega]
     have G1:args.getD (3 * (k / 3)+1) 0=u1:=by rw [hj,← hu1]; simp [List.getD,show k+1<args.length by omega]
     have G2:args.getD (3 * (k / 3)+2) 0=u2:=by rw [hj,← hu2]; simp [List.getD,show k+2<args.length by omega]
     have hj2:(k+2) / 3=k / 3:=by omega
     have hj3:(k+1+2) / 3=k / 3+1:=by omega
     have HCASE:=hid (show casesTo p f args ((k+1+2) / 3)↔caseOk p f u0 u1 u2 from by
      rw [hj3];have h0:=hall.out;rw [hj2] at h0;constructor
      ·intro h1
       have:=h1 (k / 3) (by omega)
       rwa [G0,G1,G2] at this
      ·intro h1 j hjl
       by_cases hjk:j=k / 3
       ·subst hjk; rw [G0,G1,G2]; exact h1
       ·exact h0 j (by omega))
     have HDN:=hid (show dcnt args ((k+1+2) / 3)=D+(if u0=3 then 1 else 0) from by rw [hj3,dcnt,G0,HD.out,hj2]);have HM:=hid (show (k+1+2) / 3≤N / 3 from by have:=HL.out; omega);clear hu0 hu1 hu2 G0 G1 G2 hcl hj hj2 hj3 hm3;go_wp2_with fail;go_still_tail 19,(by kernel_rfl)
     change wpList _ _ _ _ _ wr.drew;have hTd:=hTr.next (below_drews _ _ 1);change Three w wr.drew _ _ _ at hTd;have q0':wr.drew.cell? ⟨b9,off9+k,none⟩=some (.int .i64 u0):=q0;generalize wr.drew=wd at hTd q0' ⊢;go_wp2_with fail;refine (rcase_any p f u0 u1 u2 hr _ (h.next hTd.two.below)).mono ?_;rintro e w5 ⟨v,rfl,hv,hb5⟩;have hT5:=hTd.next hb5;obtain ⟨xx0,xx1,xx2⟩:=bx3 hT5.two.fst;obtain ⟨yy0,yy1,yy2,yy3,yy4,yy5⟩:=bx6 hT5.two.snd;obtain ⟨zz0,zz1,zz2,zz3,zz4⟩:=bx5 hT5.thd;have qq0:=(hb5.cell (p:=⟨b9,off9+k,none⟩) (by have:=hTd.size; show b9<_; omega)).trans q0';clear x0 x1 x2 y0 y1 y2 y3 y4 y5 z0 z1 z2 z3 z4 q0 q1 q2 q0';by_cases hv0:v=0
     ·have HCN:=hid (HCASE.out.2 (hv.1 hv0))
      subst hv0;clear hv HCASE;by_cases hu3:u0=3
      ·subst hu3
       go_wp2_with fail;exact ⟨⟨k+1,D+1,by go_num,by go_num,by omega,hid (by rw [HDN.out]; rfl),HCN,hT5⟩,by simp [intOf]; omega⟩
      ·have e3:(u0 == 3)=false:=by simpa using hu3
       have HDN2:=hid (show D=dcnt args ((k+1+2) / 3) from by rw [HDN.out,if_neg hu3]; rfl);clear HDN hu3;go_wp2_with fail;exact ⟨⟨k+1,D,rfl,by go_num,by omega,HDN2,HCN,hT5⟩,by simp [intOf]; omega⟩
     ·have HNO:=hid (show ¬ V from fun z=>hv0 (hv.2 (HCASE.out.1 (fun j hj=>(HV.out.1 z).1.2.1 j (by have:=HM.out; rw [show (Ins.args ⟨67,a,b,c,args,_,argC⟩).length / 3=N / 3 from by show args.length / 3=_; rw [HN.out]]; omega)))))
      have e1:(v != 0)=true:=by simpa using hv0
      have HV0:=hid hv0;clear hv hv0 HV HCASE;go_wp2_with fail;go_ret;exact retE_no HV0.out HNO.out hT5.two.below
    ·have m1:((k:Int) % 3 != 0)=true:=by simp; omega
     have m2:((k:Int).tmod 3 != 0)=true:=by rw [Int.tmod_eq_emod_of_nonneg (by omega)]; exact m1
     have hj:(k+1+2) / 3=(k+2) / 3:=by omega
     have HD2:=hid (show D=dcnt args ((k+1+2) / 3) from by rw [hj]; exact HD.out);have HA2:=hid (show casesTo p f args ((k+1+2) / 3) from by rw [hj]; exact hall.out);clear hj hm3;go_wp2_with fail;exact ⟨⟨k+1,D,rfl,by go_num,by omega,HD2,HA2,hTr⟩,by simp [intOf]; omega⟩
   ·have hd1:=Df (show ¬ (k:Int)<N by omega)
    have hd2:=Df hlt;obtain rfl:k=N:=by omega
    have hj:(k+2) / 3=k / 3:=by have:=HL.out; omega
    have HD2:=hid (show D=dcnt args (k / 3) from by rw [← hj]; exact HD.out);have HA2:=hid (show casesTo p f args (k / 3) from by rw [← hj]; exact hall.out)
    have HVV:=hid (show V↔D≤1∧¬ (a=b∨a=c∨b=c) from by
     rw [HV.out];show (((args.length≠0∧args.length % 3=0∧args.length≤18)∧casesTo p f args (args.length / 3)∧dcnt args (args.length / 3)≤1)∧(¬ ((67:Int)=65∧a=c)∧¬ ((67:Int)=67∧(a=b∨a=c∨b=c))))↔_;rw [HN.out,← HD2.out];constructor
     ·rintro ⟨⟨_,_,h1⟩,_,h2⟩
      exact ⟨h1,fun e=>h2 ⟨rfl,e⟩⟩
     ·rintro ⟨h1,h2⟩
      exact ⟨⟨HL.out,HA2.out,h1⟩,fun e=>absurd e.1 (by decide),fun e=>h2 e.2⟩)
    clear hj HV;by_cases hD1:1<D
    ·have g1:=Dt (show (1:Int)<D by omega)
     have g2:=Dt hD1;have HNO:=hid (show ¬ V from fun v=>by have:=(HVV.out.1 v).1; omega);clear HVV hD1;go_wp2_with fail;go_ret;exact retE_no (by decide) HNO.out hTr.two.below
    ·have g1:=Df (show ¬ (1:Int)<D by omega)
     have g2:=Df hD1;by_cases hab:a=b
     ·have HNO:=hid (show ¬ V from fun v=>(HVV.out.1 v).2 (.inl hab))
      have g3:(a == b)=true:=by simpa using hab
      clear HVV hD1 hab;go_wp2_with fail;go_ret;exact retE_no (by decide) HNO.out hTr.two.below
     ·have g3:(a == b)=false:=by simpa using hab
      by_cases hac:a=c
      ·have HNO:=hid (show ¬ V from fun v=>(HVV.out.1 v).2 (.inr (.inl hac)))
       have g4:(a == c)=true:=by simpa using hac
       clear HVV hD1 hab hac;go_wp2_with fail;go_ret;exact retE_no (by decide) HNO.out hTr.two.below
      ·have g4:(a == c)=false:=by simpa using hac
       by_cases hbc:b=c
       ·have HNO:=hid (show ¬ V from fun v=>(HVV.out.1 v).2 (.inr (.inr hbc)))
        have g5:(b == c)=true:=by simpa using hbc
        clear HVV hD1 hab hac hbc;go_wp2_with fail;go_ret;exact retE_no (by decide) HNO.out hTr.two.below
       ·have g5:(b == c)=false:=by simpa using hbc
        have HY:=hid (show V from HVV.out.2 ⟨by omega,by rintro (e | e | e) <;> first | exact hab e | exact hac e | exact hbc e⟩);clear HVV hD1 hab hac hbc;go_wp2_with fail;go_ret;exact retE_ok HY.out hTr.two.below
 ·have HNO:=hid (show ¬ V from fun v=>hl (by
   have h9:=(HV.out.1 v).1.1;have h10:args.length≠0∧args.length % 3=0∧args.length≤18:=h9
   rwa [HN.out] at h10))
  clear HV;by_cases h0:N=0
  ·have e1:((N:Int) == 0)=true:=by simp; omega
   have e4:(N == 0)=true:=by simp; omega
   clear hl h0;go_enter Tryz.func98,Tryz.ntmps98;go_wp2_with fail;generalize World.alloc (World.alloc (World.alloc w _) _) _=W1 at hT ⊢;go_ret;exact retE_no (by decide) HNO.out hT.two.below
  ·have e1:((N:Int) == 0)=false:=by simp; omega
   have e4:(N == 0)=false:=by simp; omega
   by_cases h3:N % 3=0
   ·have e2:((N:Int) % 3 != 0)=false:=by simp; omega
    have e2':((N:Int).tmod 3 != 0)=false:=by rw [Int.tmod_eq_emod_of_nonneg (by omega)]; exact e2
    have e3:=Dt (show (18:Int)<N by omega);have e5:=Dt (show 18<N by omega);clear hl h0 h3;go_enter Tryz.func98,Tryz.ntmps98;go_wp2_with fail;generalize World.alloc (World.alloc (World.alloc w _) _) _=W1 at hT ⊢;go_ret;exact retE_no (by decide) HNO.out hT.two.below
   ·have e2:((N:Int) % 3 != 0)=true:=by simp; omega
    have e2':((N:Int).tmod 3 != 0)=true:=by rw [Int.tmod_eq_emod_of_nonneg (by omega)]; exact e2
    clear hl h0 h3;go_enter Tryz.func98,Tryz.ntmps98;go_wp2_with fail;generalize World.alloc (World.alloc (World.alloc w _) _) _=W1 at hT ⊢;go_ret;exact retE_no (by decide) HNO.out hT.two.below
end Go.Proofs.YtkpjdanfpolimaaGreat
