/- ref13.Check, walked. Conditions: the program lies in memory. -/
import Derived.Test.YtkpjdanfpolimaaGreatLcRfn
set_option maxRecDepth 100000
set_option maxHeartbeats 6400000
namespace Go.Proofs.YtkpjdanfpolimaaGreat
open Go.RowKit
def prgOk (p:Prg):Prop:=
 (p.funs.length≠0∧p.funs.length≤32∧p.obs.length≤16∧p.vrs.length≤16)∧(∀ (k:Nat) (hk:k<p.obs.length),obOk p k p.obs[k])∧(∀ (k:Nat) (hk:k<p.vrs.length),vrOk p k p.vrs[k])∧∀ (k:Nat) (hk:k<p.funs.length),fnOk p k p.funs[k]
structure One (w W:World) (a:List Value):Prop where
 fst:Bx W w.heap.size a
 below:Below w.heap.size w W
 size:w.heap.size+1≤W.heap.size
theorem One.next {w W W':World} {a:List Value} (h:One w W a) (hb:Below W.heap.size W W'):One w W' a:=
 ⟨h.fst.below hb (by have:=h.size; omega),h.below.trans (hb.mono h.below.size),by have:=h.size; have:=hb.size; omega⟩
theorem one_new (w:World) (a:Array Value) (s:Nat):One w (w.alloc (.cells a s)) a.toList:=⟨bx_new w a s,below_alloc _ _,by simp⟩
theorem refCheck_any (p:Prg) (w:World) (h:Lies w w.heap.size p):Calls Tryz.prog 44 #[p.val] w (RetE (prgOk p) w):=by
 have hn1:=h.funN;have hn2:=h.obN;have hn3:=h.vrN;unfold maxLen at hn1 hn2 hn3;obtain ⟨V,hV⟩:∃ V,V=prgOk p:=⟨_,rfl⟩
 rw [← hV];have HV:=hid (iff_of_eq hV);clear hV;have hT:=one_new w #[.slice p.funA p.funs.length p.funC,.slice p.obA p.obs.length p.obC,.slice p.vrA p.vrs.length p.vrC] 26;have hc1:=fun k hk w h=>refOb_any p k hk w h
 have hc2:=fun k hk w h=>refVr_any p k hk w h
 have hc3:=fun k hk w h=>refFn_any p k hk w h
 unfold Prg.val at hc1 hc2 hc3 ⊢;have HC1:=hid hc1;have HC2:=hid hc2;have HC3:=hid hc3;clear hc1 hc2 hc3;go_enter Tryz.func44,Tryz.ntmps44;by_cases h0:p.funs.length=0
 ·have HNO:=hid (show ¬ V from fun v=>(HV.out.1 v).1.1 h0)
  have e1:((p.funs.length:Int) == 0)=true:=beq_iff_eq.2 (by omega);have e2:(p.funs.length == 0)=true:=beq_iff_eq.2 h0;clear HV h0;go_wp2_with fail;go_ret;exact retE_no (by decide) HNO.out hT.below
 ·have e1:((p.funs.length:Int) == 0)=false:=beq_eq_false_iff_ne.2 (by omega)
  have e2:(p.funs.length == 0)=false:=beq_eq_false_iff_ne.2 h0;have H0:=hid h0;clear h0;by_cases h1:32<p.funs.length
  ·have HNO:=hid (show ¬ V from fun v=>by have:=(HV.out.1 v).1.2.1; omega)
   have g1:=Dt (show (32:Int)<p.funs.length by omega);have g2:=Dt h1;clear HV h1;go_wp2_with fail;go_ret;exact retE_no (by decide) HNO.out hT.below
  ·have g1:=Df (show ¬ (32:Int)<p.funs.length by omega)
   have g2:=Df h1;have H1:=hid h1;clear h1;by_cases h2:16<p.obs.length
   ·have HNO:=hid (show ¬ V from fun v=>by have:=(HV.out.1 v).1.2.2.1; omega)
    have g3:=Dt (show (16:Int)<p.obs.length by omega);have g4:=Dt h2;clear HV h2;go_wp2_with fail;go_ret;exact retE_no (by decide) HNO.out hT.below
   ·have g3:=Df (show ¬ (16:Int)<p.obs.length by omega)
    have g4:=Df h2;have H2:=hid h2;clear h2;by_cases h3:16<p.vrs.length
    ·have HNO:=hid (show ¬ V from fun v=>by have:=(HV.out.1 v).1.2.2.2; omega)
     have g5:=Dt (show (16:Int)<p.vrs.length by omega);have g6:=Dt h3;clear HV h3;go_wp2_with fail;go_ret;exact retE_no (by decide) HNO.out hT.below
    ·have g5:=Df (show ¬ (16:Int)<p.vrs.length by omega)
     have g6:=Df h3;have HLEN:=hid (show p.funs.length≠0∧p.funs.length≤32∧p.obs.length≤16∧p.vrs.length≤16 from ⟨H0.out,by have:=H1.out; omega,by have:=H2.out; omega,by omega⟩);clear h3 H0 H1 H2;go_wp2_with fail;generalize World.alloc w _=W1 at hT ⊢;go_loopw [3] (fun i wr=>∃ j:Nat,i=.int .i64 j∧j≤p.obs.length∧Hid (∀ (k:Nat) (hk:k<p.obs.length),k<j→obOk p k p.obs[k])∧One w wr [.slice p.funA p.funs.length p.funC,.slice p.obA p.obs.length p.obC,.slice p.vrA p.vrs.length p.vrC]) (fun i _=>p.obs.length - (intOf i).toNat)
     case atStart=>exact ⟨0,rfl,by omega,hid (fun k hk e=>by omega),hT⟩
     case round=>
      obtain ⟨j,rfl,hj,hall,hTa⟩:=hrel;obtain ⟨xa0,xa1,xa2⟩:=bx3 hTa.fst;have hj0:=zi j;by_cases hlt:j<p.obs.length
      ·have hwr1:=Wi j (by omega)
       have hd1:=Dt (show (j:Int)<p.obs.length by omega);have hd2:=Dt hlt;go_wp2_with fail;refine (HC1.out j hlt _ (h.next hTa.below)).mono ?_;rintro e w5 ⟨v,rfl,hv,hb5⟩;have hT5:=hTa.next hb5;by_cases hv0:v=0
       ·have HALL:=hid (show ∀ (k:Nat) (hk:k<p.obs.length),k<j+1→obOk p k p.obs[k] from by
         intro k hk hkj;by_cases hkj2:k=j
         ·subst hkj2; exact hv.1 hv0
         ·exact hall.out k hk (by omega))
        subst hv0;clear hv hall;go_wp2_with fail;exact ⟨⟨j+1,by go_num,by omega,HALL,hT5⟩,by simp [intOf]; omega⟩
       ·have HNO:=hid (show ¬ V from fun z=>hv0 (hv.2 ((HV.out.1 z).2.1 j hlt)))
        have e1:(v != 0)=true:=by simpa using hv0
        have HV0:=hid hv0;clear hv hv0 HV;go_wp2_with fail;go_ret;exact retE_no HV0.out HNO.out hT5.below
      ·have hd1:=Df (show ¬ (j:Int)<p.obs.length by omega)
       have hd2:=Df hlt;have A1:=hid (show ∀ (k:Nat) (hk:k<p.obs.length),obOk p k p.obs[k] from fun k hk=>hall.out k hk (by omega));clear hlt hall hj;go_wp2_with fail;go_loopw [5] (fun i wr=>∃ j:Nat,i=.int .i64 j∧j≤p.vrs.length∧Hid (∀ (k:Nat) (hk:k<p.vrs.length),k<j→vrOk p k p.vrs[k])∧One w wr [.slice p.funA p.funs.length p.funC,.slice p.obA p.obs.length p.obC,.slice p.vrA p.vrs.length p.vrC]) (fun i _=>p.vrs.length - (intOf i).toNat)
       case atStart=>exact ⟨0,rfl,by omega,hid (fun k hk e=>by omega),hTa⟩
       case round=>
        obtain ⟨j,rfl,hj,hall,hTb⟩:=hrel;obtain ⟨xb0,xb1,xb2⟩:=bx3 hTb.fst;have hj0:=zi j;by_cases hlt:j<p.vrs.length
        ·have hwr1:=Wi j (by omega)
         have hd1:=Dt (show (j:Int)<p.vrs.length by omega);have hd2:=Dt hlt;go_wp2_with fail;refine (HC2.out j hlt _ (h.next hTb.below)).mono ?_;rintro e w5 ⟨v,rfl,hv,hb5⟩;have hT5:=hTb.next hb5;by_cases hv0:v=0
         ·have HALL:=hid (show ∀ (k:Nat) (hk:k<p.vrs.length),k<j+1→vrOk p k p.vrs[k] from by
           intro k hk hkj;by_cases hkj2:k=j
           ·subst hkj2; exact hv.1 hv0
           ·exact hall.out k hk (by omega))
          subst hv0;clear hv hall;go_wp2_with fail;exact ⟨⟨j+1,by go_num,by omega,HALL,hT5⟩,by simp [intOf]; omega⟩
         ·have HNO:=hid (show ¬ V from fun z=>hv0 (hv.2 ((HV.out.1 z).2.2.1 j hlt)))
          have e1:(v != 0)=true:=by simpa using hv0
          have HV0:=hid hv0;clear hv hv0 HV;go_wp2_with fail;go_ret;exact retE_no HV0.out HNO.out hT5.below
        ·have hd1:=Df (show ¬ (j:Int)<p.vrs.length by omega)
         have hd2:=Df hlt;have A2:=hid (show ∀ (k:Nat) (hk:k<p.vrs.length),vrOk p k p.vrs[k] from fun k hk=>hall.out k hk (by omega));clear hlt hall hj;go_wp2_with fail;go_loopw [7] (fun i wr=>∃ j:Nat,i=.int .i64 j∧j≤p.funs.length∧Hid (∀ (k:Nat) (hk:k<p.funs.length),k<j→fnOk p k p.funs[k])∧One w wr [.slice p.funA p.funs.length p.funC,.slice p.obA p.obs.length p.obC,.slice p.vrA p.vrs.length p.vrC]) (fun i _=>p.funs.length - (intOf i).toNat)
         case atStart=>exact ⟨0,rfl,by omega,hid (fun k hk e=>by omega),hTb⟩
         case round=>
          obtain ⟨j,rfl,hj,hall,hTc⟩:=hrel;obtain ⟨xc0,xc1,xc2⟩:=bx3 hTc.fst;have hj0:=zi j;by_cases hlt:j<p.funs.length
          ·have hwr1:=Wi j (by omega)
           have hd1:=Dt (show (j:Int)<p.funs.length by omega);have hd2:=Dt hlt;go_wp2_with fail;refine (HC3.out j hlt _ (h.next hTc.below)).mono ?_;rintro e w5 ⟨v,rfl,hv,hb5⟩;have hT5:=hTc.next hb5;by_cases hv0:v=0
           ·have HALL:=hid (show ∀ (k:Nat) (hk:k<p.funs.length),k<j+1→fnOk p k p.funs[k] from by
             intro k hk hkj;by_cases hkj2:k=j
             ·subst hkj2; exact hv.1 hv0
             ·exact hall.out k hk (by omega))
            subst hv0;clear hv hall;go_wp2_with fail;exact ⟨⟨j+1,by go_num,by omega,HALL,hT5⟩,by simp [intOf]; omega⟩
           ·have HNO:=hid (show ¬ V from fun z=>hv0 (hv.2 ((HV.out.1 z).2.2.2 j hlt)))
            have e1:(v != 0)=true:=by simpa using hv0
            have HV0:=hid hv0;clear hv hv0 HV;go_wp2_with fail;go_ret;exact retE_no HV0.out HNO.out hT5.below
          ·have hd1:=Df (show ¬ (j:Int)<p.funs.length by omega)
           have hd2:=Df hlt;have A3:=hid (show ∀ (k:Nat) (hk:k<p.funs.length),fnOk p k p.funs[k] from fun k hk=>hall.out k hk (by omega));clear hlt hall hj;have HY:=hid (show V from HV.out.2 ⟨HLEN.out,A1.out,A2.out,A3.out⟩);clear HV;go_wp2_with fail;go_ret;exact retE_ok HY.out hTc.below
end Go.Proofs.YtkpjdanfpolimaaGreat
