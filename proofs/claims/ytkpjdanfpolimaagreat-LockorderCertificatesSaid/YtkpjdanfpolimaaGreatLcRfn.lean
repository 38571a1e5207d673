/- ref13.checkFunc, walked. Conditions: the program lies in memory. -/
import Derived.Test.YtkpjdanfpolimaaGreatLcRins
set_option maxRecDepth 100000
set_option maxHeartbeats 6400000
namespace Go.Proofs.YtkpjdanfpolimaaGreat
open Go.RowKit
def fnOk (p:Prg) (k:Nat) (f:Fn):Prop:=
 nameOk f.name.data.toList=true∧(∀ q∈p.funs.take k,q.name≠f.name)∧inR2 f.params 0 8=true∧inR2 f.regs f.params 32=true∧inR2 f.prio 0 9=true∧¬ (f.clean=true∧f.prio≠0)∧f.code.length≤200∧(k=0→f.params=0∧f.clean=false)∧∀ i∈f.code,insOk p f i
theorem refFn_any (p:Prg) (k:Nat) (hk:k<p.funs.length) (w:World) (h:Lies w w.heap.size p):Calls Tryz.prog 64 #[p.val,.int .i64 k] w (RetE (fnOk p k p.funs[k]) w):=by
 have hn:=h.funN;unfold maxLen at hn;obtain ⟨b,off,hA,hb,c0,c1,c2,c3,c4,c5⟩:=h.fn hk;obtain ⟨hcN,hnm,hcc⟩:=h.codeN p.funs[k] (List.getElem_mem _);have hf:p.funs[k]∈p.funs:=List.getElem_mem _;obtain ⟨f,ho⟩:∃ f,p.funs[k]=f:=⟨_,rfl⟩
 rw [ho] at c0 c1 c2 c3 c4 c5 hnm hcN hcc hf ⊢;unfold maxLen at hcN;obtain ⟨V,hV⟩:∃ V,V=fnOk p k f:=⟨_,rfl⟩
 rw [← hV];have HV:=hid (show V↔nameOk f.name.data.toList=true∧(∀ q∈p.funs.take k,q.name≠f.name)∧inR2 f.params 0 8=true∧inR2 f.regs f.params 32=true∧inR2 f.prio 0 9=true∧¬ (f.clean=true∧f.prio≠0)∧f.code.length≤200∧(k=0→f.params=0∧f.clean=false)∧∀ i∈f.code,insOk p f i from by rw [hV]; rfl);clear hV ho;have hk0:=zi k;have hk1:(k:Int)<(p.funs.length:Int):=by omega
 have hval:p.val=.agg #[.slice (some ⟨b,off,none⟩) p.funs.length p.funC,.slice p.obA p.obs.length p.obC,.slice p.vrA p.vrs.length p.vrC]:=by rw [Prg.val,hA]
 rw [hval];have hT:=two_new w #[.slice (some ⟨b,off,none⟩) p.funs.length p.funC,.slice p.obA p.obs.length p.obC,.slice p.vrA p.vrs.length p.vrC] #[.string f.name,.int .i64 f.params,.int .i64 f.regs,.int .i64 f.prio,.bool f.clean,.slice f.codeA f.code.length f.codeC] 26 60;go_enter Tryz.func64,Tryz.ntmps64;go_wp2_with fail;generalize World.alloc (World.alloc w _) _=W1 at hT ⊢;refine (refName_any f.name hnm _).mono ?_
 cases hq1:nameOk f.name.data.toList with
 | false=>
  rintro e W4 ⟨rfl,hb4⟩;have hT4:=hT.next hb4;have HNO:=hid (show ¬ V from fun v=>absurd (hq1.symm.trans (HV.out.1 v).1) (by decide));clear HV hq1;go_wp2_with fail;go_ret;exact retE_no (by decide) HNO.out hT4.below
 | true=>
  rintro e W4 ⟨rfl,hb4⟩;have hT4:=hT.next hb4;obtain ⟨x40,x41,x42⟩:=bx3 hT4.fst;obtain ⟨y40,y41,y42,y43,y44,y45⟩:=bx6 hT4.snd;have HQ1:=hid hq1;clear hq1 hT;go_wp2_with fail;go_loopw [6] (fun i wr=>∃ j:Nat,i=.int .i64 j∧j≤k∧Hid ((p.funs.take j).any (fun x=>x.name == f.name)=false)∧Two w wr [.slice (some ⟨b,off,none⟩) p.funs.length p.funC,.slice p.obA p.obs.length p.obC,.slice p.vrA p.vrs.length p.vrC] [.string f.name,.int .i64 f.params,.int .i64 f.regs,.int .i64 f.prio,.bool f.clean,.slice f.codeA f.code.length f.codeC]) (fun i _=>k - (intOf i).toNat)
  case atStart=>exact ⟨0,rfl,by omega,hid (by simp),hT4⟩
  case round=>
   obtain ⟨j,rfl,hj,hnone,hTr⟩:=hrel;obtain ⟨x80,x81,x82⟩:=bx3 hTr.fst;obtain ⟨y80,y81,y82,y83,y84,y85⟩:=bx6 hTr.snd;have hj0:=zi j;have hwr1:=Wi j (by omega);by_cases hlt:j<k
   ·have hd1:=Dt (show (j:Int)<k by omega)
    have hd2:=Dt hlt;have hjl:j<p.funs.length:=by omega
    have hjl2:(j:Int)<(p.funs.length:Int):=by omega
    obtain ⟨b9,off9,hA9,hb9,d0,-,-,-,-,-⟩:=h.fn hjl;obtain ⟨rfl,rfl⟩:b9=b∧off9=off:=by rw [hA] at hA9; injection hA9 with e; injection e with e1 e2; exact ⟨e1.symm,e2.symm⟩
    have hs:=any_take p.funs hjl hnone.out;obtain ⟨nm',hnm'⟩:∃ nm',p.funs[j].name=nm':=⟨_,rfl⟩
    obtain ⟨nm,hnmf⟩:∃ nm,f.name=nm:=⟨_,rfl⟩
    rw [hnm'] at d0;rw [hnm'] at hs;have d0':=(hTr.below.cell (p:=⟨b9,off9+j * 6,none⟩) hb9).trans d0;have hbt:=beq_toListBytes nm' f.name;obtain ⟨q,hq⟩:∃ q,(nm' == f.name)=q:=⟨_,rfl⟩
    rw [hq] at hbt hs;have hbt2:(nm'.toList == f.name.toList)=q:=hbt.symm;have HS:=hid hs;clear hbt hq hs d0 hA9 hnm' hnone hnmf
    cases q with
    | true=>
     have HNO:=hid (show ¬ V from fun v=>by
      have h9:=(names_iff (nmOf:=Fn.name) _ _).2 (HV.out.1 v).2.1
      have h10:(p.funs.take k).any (fun x=>x.name == f.name)=true:=by
       have e:(p.funs.take k).take (j+1)=p.funs.take (j+1):=by rw [List.take_take,Nat.min_eq_left (by omega)]
       exact any_of_take' (k:=j) (by rw [e]; exact HS.out)
      rw [h10] at h9; cases h9)
     clear HV;go_wp2_with fail;go_quiet (fail);go_wp2_with fail;go_ret;exact retE_no (by decide) HNO.out (hTr.below.trans (below_drews _ _ _))
    | false=>
     go_wp2_with fail;go_quiet (fail);go_wp2_with fail;exact ⟨⟨j+1,by go_num,by omega,hid HS.out,hTr.next (below_drews _ _ _)⟩,by simp [intOf]; omega⟩
   ·have hd1:=Df (show ¬ (j:Int)<k by omega)
    have hd2:=Df hlt;obtain rfl:k=j:=by omega
    have HN:=hid ((names_iff (nmOf:=Fn.name) _ _).1 hnone.out);clear hnone;go_wp2_with fail;refine (between_any _ _ _ _).mono ?_
    cases hr31:inR2 f.params 0 8 with
    | false=>
     rintro e W31 ⟨rfl,hb31⟩;have hT31:=hTr.next hb31;have HNO:=hid (show ¬ V from fun v=>absurd (hr31.symm.trans (HV.out.1 v).2.2.1) (by decide));clear HV hr31;go_wp2_with fail;go_ret;exact retE_no (by decide) HNO.out hT31.below
    | true=>
     rintro e W31 ⟨rfl,hb31⟩;have hT31:=hTr.next hb31;obtain ⟨x310,x311,x312⟩:=bx3 hT31.fst;obtain ⟨y310,y311,y312,y313,y314,y315⟩:=bx6 hT31.snd;have HR31:=hid hr31;clear hr31;go_wp2_with fail;refine (between_any _ _ _ _).mono ?_
     cases hr32:inR2 f.regs f.params 32 with
     | false=>
      rintro e W32 ⟨rfl,hb32⟩;have hT32:=hT31.next hb32;have HNO:=hid (show ¬ V from fun v=>absurd (hr32.symm.trans (HV.out.1 v).2.2.2.1) (by decide));clear HV hr32;go_wp2_with fail;go_ret;exact retE_no (by decide) HNO.out hT32.below
     | true=>
      rintro e W32 ⟨rfl,hb32⟩;have hT32:=hT31.next hb32;obtain ⟨x320,x321,x322⟩:=bx3 hT32.fst;obtain ⟨y320,y321,y322,y323,y324,y325⟩:=bx6 hT32.snd;have HR32:=hid hr32;clear hr32 x310 x311 x312 y310 y311 y312 y313 y314 y315;go_wp2_with fail;refine (between_any _ _ _ _).mono ?_
      cases hr33:inR2 f.prio 0 9 with
      | false=>
       rintro e W33 ⟨rfl,hb33⟩;have hT33:=hT32.next hb33;have HNO:=hid (show ¬ V from fun v=>absurd (hr33.symm.trans (HV.out.1 v).2.2.2.2.1) (by decide));clear HV hr33;go_wp2_with fail;go_ret;exact retE_no (by decide) HNO.out hT33.below
      | true=>
       rintro e W33 ⟨rfl,hb33⟩;have hT33:=hT32.next hb33;obtain ⟨x330,x331,x332⟩:=bx3 hT33.fst;obtain ⟨y330,y331,y332,y333,y334,y335⟩:=bx6 hT33.snd;have HR33:=hid hr33;clear hr33 x320 x321 x322 y320 y321 y322 y323 y324 y325
       cases hcl:f.clean with
       | true=>
        rw [hcl] at y334 hT33;by_cases hp0:f.prio=0
        ·have e1:(f.prio != 0)=false:=by simpa using hp0
         have HCP:=hid (show ¬ (f.clean=true∧f.prio≠0) from fun e=>e.2 hp0);have HCL:=hid hcl;clear hp0;by_cases hc200:200<f.code.length
         ·have g1:=Dt (show (200:Int)<f.code.length by omega)
          have g2:=Dt hc200;have HNO:=hid (show ¬ V from fun v=>by have:=(HV.out.1 v).2.2.2.2.2.2.1; omega);clear HV hc200;go_wp2_with fail;go_ret;exact retE_no (by decide) HNO.out hT33.below
         ·have g1:=Df (show ¬ (200:Int)<f.code.length by omega)
          have g2:=Df hc200;have HC2:=hid (show f.code.length≤200 by omega);clear hc200;by_cases hkz:k=0
          ·have HNO:=hid (show ¬ V from fun v=>by
            have h9:=(HV.out.1 v).2.2.2.2.2.2.2.1 hkz;have h10:=HCL.out;rw [h9.2] at h10; cases h10)
           have g3:((k:Int) == 0)=true:=by simp; omega
           have g4:(k == 0)=true:=by simp; omega
           clear HV hkz;by_cases hp0:f.params=0
           ·have g5:(f.params != 0)=false:=by simpa using hp0
            clear hp0;go_wp2_with fail;go_ret;exact retE_no (by decide) HNO.out hT33.below
           ·have g5:(f.params != 0)=true:=by simpa using hp0
            clear hp0;go_wp2_with fail;go_ret;exact retE_no (by decide) HNO.out hT33.below
          ·have g3:((k:Int) == 0)=false:=by simp; omega
           have g4:(k == 0)=false:=by simp; omega
           have HKZ:=hid hkz;clear hkz;go_wp2_with fail;go_loopw [7] (fun i wr=>∃ j:Nat,i=.int .i64 j∧j≤f.code.length∧Hid (∀ x∈f.code.take j,insOk p f x)∧Two w wr [.slice (some ⟨b,off,none⟩) p.funs.length p.funC,.slice p.obA p.obs.length p.obC,.slice p.vrA p.vrs.length p.vrC] [.string f.name,.int .i64 f.params,.int .i64 f.regs,.int .i64 f.prio,.bool true,.slice f.codeA f.code.length f.codeC]) (fun i _=>f.code.length - (intOf i).toNat)
           case atStart=>exact ⟨0,rfl,by omega,hid (fun x hx=>by simp at hx),hT33⟩
           case round=>
            obtain ⟨j,rfl,hj,hall,hTq⟩:=hrel;obtain ⟨x0,x1,x2⟩:=bx3 hTq.fst;obtain ⟨y0,y1,y2,y3,y4,y5⟩:=bx6 hTq.snd;have hj0:=zi j;by_cases hlt:j<f.code.length
            ·have hwr1:=Wi j (by omega)
             have hd1:=Dt (show (j:Int)<f.code.length by omega);have hd2:=Dt hlt;have hjl2:(j:Int)<(f.code.length:Int):=by omega
             obtain ⟨b9,off9,hA9,hb9,d0,d1,d2,d3,d4⟩:=h.ins hf hlt;have q0:=(hTq.below.cell (p:=⟨b9,off9+j * 5,none⟩) hb9).trans d0;have q1:=(hTq.below.cell (p:=⟨b9,off9+j * 5+1,none⟩) hb9).trans d1;have q2:=(hTq.below.cell (p:=⟨b9,off9+j * 5+2,none⟩) hb9).trans d2;have q3:=(hTq.below.cell (p:=⟨b9,off9+j * 5+3,none⟩) hb9).trans d3;have q4:=(hTq.below.cell (p:=⟨b9,off9+j * 5+4,none⟩) hb9).trans d4;rw [hA9] at y5;have hargN:=h.argN f hf f.code[j] (List.getElem_mem _);have hargs:=h.args f hf f.code[j] (List.getElem_mem _);obtain ⟨x,hx⟩:∃ x,f.code[j]=x:=⟨_,rfl⟩
             rw [hx] at q0 q1 q2 q3 q4 hargN hargs;have hcall:=fun hr w hh hga=>rins_any p f hf x hargN.1 hr w hh hga
             unfold Fn.val Fn.cells Ins.val Ins.cells at hcall;rw [hval,HCL.out,hA9] at hcall;have HCALL:=hid (hcall (by have h9:=HR32.out; have h8:=HR31.out; rw [inR2_iff] at h9 h8; omega));have HX:=hid hx;have HA9:=hid hA9;clear hcall hx d0 d1 d2 d3 d4 hA9;go_wp2_with fail;go_still_tail 7,(by kernel_rfl)
             change wpList _ _ _ _ _ wr.drew;have hTd:=hTq.next (below_drews _ _ 1);change Two w wr.drew _ _ at hTd;generalize wr.drew=wd at hTd ⊢;go_wp2_with fail;refine (HCALL.out _ (h.next hTd.below) (Rd.more (Rd.below hargs hTd.below) hTd.below.size)).mono ?_;rintro e w5 ⟨v,rfl,hv,hb5⟩;have hT5:=hTd.next hb5;by_cases hv0:v=0
             ·have HP:=hid (hv.1 hv0)
              have HALL:=hid (show ∀ x∈f.code.take (j+1),insOk p f x from by
               intro y hy;rw [List.take_succ_eq_append_getElem hlt,List.mem_append] at hy;rcases hy with hy | hy
               ·exact hall.out y hy
               ·rw [List.mem_singleton] at hy; rw [hy,HX.out]; exact HP.out)
              subst hv0;clear hv hall;go_wp2_with fail;exact ⟨⟨j+1,by go_num,by omega,HALL,by have h9:=HA9.out; exact hT5⟩,by simp [intOf]; omega⟩
             ·have HNO:=hid (show ¬ V from fun z=>hv0 (hv.2 ((HV.out.1 z).2.2.2.2.2.2.2.2 x (by rw [← HX.out]; exact List.getElem_mem _))))
              have e1:(v != 0)=true:=by simpa using hv0
              have HV0:=hid hv0;clear hv hv0 HV;go_wp2_with fail;go_ret;exact retE_no HV0.out HNO.out hT5.below
            ·have hd1:=Df (show ¬ (j:Int)<f.code.length by omega)
             have hd2:=Df hlt;obtain rfl:j=f.code.length:=by omega
             have HY:=hid (show V from HV.out.2 ⟨HQ1.out,HN.out,HR31.out,HR32.out,HR33.out,HCP.out,HC2.out,fun e=>absurd e HKZ.out,by have:=hall.out; rwa [List.take_length] at this⟩);clear HV hlt hj;go_wp2_with fail;go_ret;exact retE_ok HY.out hTq.below
        ·have e1:(f.prio != 0)=true:=by simpa using hp0
         have HNO:=hid (show ¬ V from fun v=>(HV.out.1 v).2.2.2.2.2.1 ⟨hcl,hp0⟩);clear HV hp0;go_wp2_with fail;go_ret;exact retE_no (by decide) HNO.out hT33.below
       | false=>
        rw [hcl] at y334 hT33;have HCP:=hid (show ¬ (f.clean=true∧f.prio≠0) from fun e=>absurd (hcl.symm.trans e.1) (by decide));have HCL:=hid hcl;by_cases hc200:200<f.code.length
        ·have g1:=Dt (show (200:Int)<f.code.length by omega)
         have g2:=Dt hc200;have HNO:=hid (show ¬ V from fun v=>by have:=(HV.out.1 v).2.2.2.2.2.2.1; omega);clear HV hc200;go_wp2_with fail;go_ret;exact retE_no (by decide) HNO.out hT33.below
        ·have g1:=Df (show ¬ (200:Int)<f.code.length by omega)
         have g2:=Df hc200;have HC2:=hid (show f.code.length≤200 by omega);clear hc200;by_cases hkz:k=0
         ·have g3:((k:Int) == 0)=true:=by simp; omega
          have g4:(k == 0)=true:=by simp; omega
          by_cases hp0:f.params=0
          ·have g5:(f.params != 0)=false:=by simpa using hp0
           have HKZ:=hid (show k=0→f.params=0∧f.clean=false from fun _=>⟨hp0,HCL.out⟩);clear hp0 hkz;go_wp2_with fail;go_loopw [7] (fun i wr=>∃ j:Nat,i=.int .i64 j∧j≤f.code.length∧Hid (∀ x∈f.code.take j,insOk p f x)∧Two w wr [.slice (some ⟨b,off,none⟩) p.funs.length p.funC,.slice p.obA p.obs.length p.obC,.slice p.vrA p.vrs.length p.vrC] [.string f.name,.int .i64 f.params,.int .i64 f.regs,.int .i64 f.prio,.bool false,.slice f.codeA f.code.length f.codeC]) (fun i _=>f.code.length - (intOf i).toNat)
           case atStart=>exact ⟨0,rfl,by omega,hid (fun x hx=>by simp at hx),hT33⟩
           case round=>
            obtain ⟨j,rfl,hj,hall,hTq⟩:=hrel;obtain ⟨x0,x1,x2⟩:=bx3 hTq.fst;obtain ⟨y0,y1,y2,y3,y4,y5⟩:=bx6 hTq.snd;have hj0:=zi j;by_cases hlt:j<f.code.length
            ·have hwr1:=Wi j (by omega)
             have hd1:=Dt (show (j:Int)<f.code.length by omega);have hd2:=Dt hlt;have hjl2:(j:Int)<(f.code.length:Int):=by omega
             obtain ⟨b9,off9,hA9,hb9,d0,d1,d2,d3,d4⟩:=h.ins hf hlt;have q0:=(hTq.below.cell (p:=⟨b9,off9+j * 5,none⟩) hb9).trans d0;have q1:=(hTq.below.cell (p:=⟨b9,off9+j * 5+1,none⟩) hb9).trans d1;have q2:=(hTq.below.cell (p:=⟨b9,off9+j * 5+2,none⟩) hb9).trans d2;have q3:=(hTq.below.cell (p:=⟨b9,off9+j * 5+3,none⟩) hb9).trans d3;have q4:=(hTq.below.cell (p:=⟨b9,off9+j * 5+4,none⟩) hb9).trans d4;rw [hA9] at y5;have hargN:=h.argN f hf f.code[j] (List.getElem_mem _);have hargs:=h.args f hf f.code[j] (List.getElem_mem _);obtain ⟨x,hx⟩:∃ x,f.code[j]=x:=⟨_,rfl⟩
             rw [hx] at q0 q1 q2 q3 q4 hargN hargs;have hcall:=fun hr w hh hga=>rins_any p f hf x hargN.1 hr w hh hga
             unfold Fn.val Fn.cells Ins.val Ins.cells at hcall;rw [hval,HCL.out,hA9] at hcall;have HCALL:=hid (hcall (by have h9:=HR32.out; have h8:=HR31.out; rw [inR2_iff] at h9 h8; omega));have HX:=hid hx;have HA9:=hid hA9;clear hcall hx d0 d1 d2 d3 d4 hA9;go_wp2_with fail;go_still_tail 7,(by kernel_rfl)
             change wpList _ _ _ _ _ wr.drew;have hTd:=hTq.next (below_drews _ _ 1);change Two w wr.drew _ _ at hTd;generalize wr.drew=wd at hTd ⊢;go_wp2_with fail;refine (HCALL.out _ (h.next hTd.below) (Rd.more (Rd.below hargs hTd.below) hTd.below.size)).mono ?_;rintro e w5 ⟨v,rfl,hv,hb5⟩;have hT5:=hTd.next hb5;by_cases hv0:v=0
             ·have HP:=hid (hv.1 hv0)
              have HALL:=hid (show ∀ x∈f.code.take (j+1),insOk p f x from by
               intro y hy;rw [List.take_succ_eq_append_getElem hlt,List.mem_append] at hy;rcases hy with hy | hy
               ·exact hall.out y hy
               ·rw [List.mem_singleton] at hy; rw [hy,HX.out]; exact HP.out)
              subst hv0;clear hv hall;go_wp2_with fail;exact ⟨⟨j+1,by go_num,by omega,HALL,by have h9:=HA9.out; exact hT5⟩,by simp [intOf]; omega⟩
             ·have HNO:=hid (show ¬ V from fun z=>hv0 (hv.2 ((HV.out.1 z).2.2.2.2.2.2.2.2 x (by rw [← HX.out]; exact List.getElem_mem _))))
              have e1:(v != 0)=true:=by simpa using hv0
              have HV0:=hid hv0;clear hv hv0 HV;go_wp2_with fail;go_ret;exact retE_no HV0.out HNO.out hT5.below
            ·have hd1:=Df (show ¬ (j:Int)<f.code.length by omega)
             have hd2:=Df hlt;obtain rfl:j=f.code.length:=by omega
             have HY:=hid (show V from HV.out.2 ⟨HQ1.out,HN.out,HR31.out,HR32.out,HR33.out,HCP.out,HC2.out,HKZ.out,by have:=hall.out; rwa [List.take_length] at this⟩);clear HV hlt hj;go_wp2_with fail;go_ret;exact retE_ok HY.out hTq.below
          ·have g5:(f.params != 0)=true:=by simpa using hp0
           have HNO:=hid (show ¬ V from fun v=>hp0 ((HV.out.1 v).2.2.2.2.2.2.2.1 hkz).1);clear HV hp0 hkz;go_wp2_with fail;go_ret;exact retE_no (by decide) HNO.out hT33.below
         ·have g3:((k:Int) == 0)=false:=by simp; omega
          have g4:(k == 0)=false:=by simp; omega
          have HKZ:=hid hkz;clear hkz;go_wp2_with fail;go_loopw [7] (fun i wr=>∃ j:Nat,i=.int .i64 j∧j≤f.code.length∧Hid (∀ x∈f.code.take j,insOk p f x)∧Two w wr [.slice (some ⟨b,off,none⟩) p.funs.length p.funC,.slice p.obA p.obs.length p.obC,.slice p.vrA p.vrs.length p.vrC] [.string f.name,.int .i64 f.params,.int .i64 f.regs,.int .i64 f.prio,.bool false,.slice f.codeA f.code.length f.codeC]) (fun i _=>f.code.length - (intOf i).toNat)
          case atStart=>exact ⟨0,rfl,by omega,hid (fun x hx=>by simp at hx),hT33⟩
          case round=>
           obtain ⟨j,rfl,hj,hall,hTq⟩:=hrel;obtain ⟨x0,x1,x2⟩:=bx3 hTq.fst;obtain ⟨y0,y1,y2,y3,y4,y5⟩:=bx6 hTq.snd;have hj0:=zi j;by_cases hlt:j<f.code.length
           ·have hwr1:=Wi j (by omega)
            have hd1:=Dt (show (j:Int)<f.code.length by omega);have hd2:=Dt hlt;have hjl2:(j:Int)<(f.code.length:Int):=by omega
            obtain ⟨b9,off9,hA9,hb9,d0,d1,d2,d3,d4⟩:=h.ins hf hlt;have q0:=(hTq.below.cell (p:=⟨b9,off9+j * 5,none⟩) hb9).trans d0;have q1:=(hTq.below.cell (p:=⟨b9,off9+j * 5+1,none⟩) hb9).trans d1;have q2:=(hTq.below.cell (p:=⟨b9,off9+j * 5+2,none⟩) hb9).trans d2;have q3:=(hTq.below.cell (p:=⟨b9,off9+j * 5+3,none⟩) hb9).trans d3;have q4:=(hTq.below.cell (p:=⟨b9,off9+j * 5+4,none⟩) hb9).trans d4;rw [hA9] at y5;have hargN:=h.argN f hf f.code[j] (List.getElem_mem _);have hargs:=h.args f hf f.code[j] (List.getElem_mem _);obtain ⟨x,hx⟩:∃ x,f.code[j]=x:=⟨_,rfl⟩
            rw [hx] at q0 q1 q2 q3 q4 hargN hargs;have hcall:=fun hr w hh hga=>rins_any p f hf x hargN.1 hr w hh hga
            unfold Fn.val Fn.cells Ins.val Ins.cells at hcall;rw [hval,HCL.out,hA9] at hcall;have HCALL:=hid (hcall (by have h9:=HR32.out; have h8:=HR31.out; rw [inR2_iff] at h9 h8; omega));have HX:=hid hx;have HA9:=hid hA9;clear hcall hx d0 d1 d2 d3 d4 hA9;go_wp2_with fail;go_still_tail 7,(by kernel_rfl)
            change wpList _ _ _ _ _ wr.drew;have hTd:=hTq.next (below_drews _ _ 1);change Two w wr.drew _ _ at hTd;generalize wr.drew=wd at hTd ⊢;go_wp2_with fail;refine (HCALL.out _ (h.next hTd.below) (Rd.more (Rd.below hargs hTd.below) hTd.below.size)).mono ?_;rintro e w5 ⟨v,rfl,hv,hb5⟩;have hT5:=hTd.next hb5;by_cases hv0:v=0
            ·have HP:=hid (hv.1 hv0)
             have HALL:=hid (show ∀ x∈f.code.take (j+1),insOk p f x from by
              intro y hy;rw [List.take_succ_eq_append_getElem hlt,List.mem_append] at hy;rcases hy with hy | hy
              ·exact hall.out y hy
              ·rw [List.mem_singleton] at hy; rw [hy,HX.out]; exact HP.out)
             subst hv0;clear hv hall;go_wp2_with fail;exact ⟨⟨j+1,by go_num,by omega,HALL,by have h9:=HA9.out; exact hT5⟩,by simp [intOf]; omega⟩
            ·have HNO:=hid (show ¬ V from fun z=>hv0 (hv.2 ((HV.out.1 z).2.2.2.2.2.2.2.2 x (by rw [← HX.out]; exact List.getElem_mem _))))
             have e1:(v != 0)=true:=by simpa using hv0
             have HV0:=hid hv0;clear hv hv0 HV;go_wp2_with fail;go_ret;exact retE_no HV0.out HNO.out hT5.below
           ·have hd1:=Df (show ¬ (j:Int)<f.code.length by omega)
            have hd2:=Df hlt;obtain rfl:j=f.code.length:=by omega
            have HY:=hid (show V from HV.out.2 ⟨HQ1.out,HN.out,HR31.out,HR32.out,HR33.out,HCP.out,HC2.out,fun e=>absurd e HKZ.out,by have:=hall.out; rwa [List.take_length] at this⟩);clear HV hlt hj;go_wp2_with fail;go_ret;exact retE_ok HY.out hTq.below
end Go.Proofs.YtkpjdanfpolimaaGreat
