/- checkVar, walked twice. Conditions: the program lies in memory. -/
import Derived.Test.YtkpjdanfpolimaaGreatLcRefOb
set_option maxRecDepth 100000
set_option maxHeartbeats 3200000
namespace Go.Proofs.YtkpjdanfpolimaaGreat
open Go.RowKit
def vrOk (p:Prg) (k:Nat) (v:Vr):Prop:=
 nameOk v.name.data.toList=true∧inR2 v.init (-1099511627776) 1099511627776=true∧(∀ q∈p.obs,q.name≠v.name)∧∀ q∈p.vrs.take k,q.name≠v.name

theorem chkVr_any (p:Prg) (k:Nat) (hk:k<p.vrs.length) (w:World) (h:Lies w w.heap.size p):Calls Tryz.prog 82 #[p.val,.int .i64 k] w (RetE (vrOk p k p.vrs[k]) w):=by
 have hn:=h.vrN;unfold maxLen at hn;obtain ⟨b,off,hA,hb,c0,c1,c2⟩:=h.vr hk;have hnm:=h.vrNm p.vrs[k] (List.getElem_mem _);obtain ⟨o,ho⟩:∃ o,p.vrs[k]=o:=⟨_,rfl⟩
 rw [ho] at c0 c1 c2 hnm ⊢;obtain ⟨nm,ini,atm⟩:=o;dsimp only at c0 c1 c2 hnm;obtain ⟨V,hV⟩:∃ V,V=vrOk p k ⟨nm,ini,atm⟩:=⟨_,rfl⟩
 rw [← hV];have HV:=hid (show V↔nameOk nm.data.toList=true∧inR2 ini (-1099511627776) 1099511627776=true∧(∀ q∈p.obs,q.name≠nm)∧∀ q∈p.vrs.take k,q.name≠nm from by rw [hV]; rfl);clear hV;have hk0:=zi k;have hk1:(k:Int)<(p.vrs.length:Int):=by omega
 have hval:p.val=.agg #[.slice p.funA p.funs.length p.funC,.slice p.obA p.obs.length p.obC,.slice (some ⟨b,off,none⟩) p.vrs.length p.vrC]:=by rw [Prg.val,hA]
 rw [hval];have hT:=two_new w #[.slice p.funA p.funs.length p.funC,.slice p.obA p.obs.length p.obC,.slice (some ⟨b,off,none⟩) p.vrs.length p.vrC] #[.string nm,.int .i64 ini,.bool atm] 26 67;have hsl:=fun w=>run_slice_to (P:=Tryz.prog) (size:=3) Tryz.underlying24 (fun w=>by kernel_rfl) (some ⟨b,off,none⟩) (n:=p.vrs.length) (cap:=p.vrC) (h:=k) (by have:=h.caps.2.2; omega) .i64 w
 go_enter Tryz.func82,Tryz.ntmps82;go_wp2_with fail;generalize World.alloc (World.alloc w _) _=W1 at hT ⊢;refine (isName_any nm hnm _).mono ?_
 cases hq1:nameOk nm.data.toList with
 | false=>
  rintro e W4 ⟨rfl,hb4⟩;have hT4:=hT.next hb4;have hno:¬ V:=fun v=>by rw [HV.out] at v; exact absurd (hq1.symm.trans v.1) (by decide)
  clear HV hq1;go_wp2_with fail;go_ret;exact retE_no (by decide) hno hT4.below
 | true=>
  rintro e W4 ⟨rfl,hb4⟩;have hT4:=hT.next hb4;obtain ⟨x40,x41,x42⟩:=bx3 hT4.fst;obtain ⟨y40,y41,y42⟩:=bx3 hT4.snd;have HQ1:=hid hq1;clear hq1;go_wp2_with fail;refine (within_any _ _ _ _).mono ?_
  cases hq2:inR2 ini (-1099511627776) 1099511627776 with
  | false=>
   rintro e W5 ⟨rfl,hb5⟩;have hT5:=hT4.next hb5;have hno:¬ V:=fun v=>by rw [HV.out] at v; exact absurd (hq2.symm.trans v.2.1) (by decide)
   clear HV hq2;go_wp2_with fail;go_ret;exact retE_no (by decide) hno hT5.below
  | true=>
   rintro e W5 ⟨rfl,hb5⟩;have hT5:=hT4.next hb5;obtain ⟨x50,x51,x52⟩:=bx3 hT5.fst;obtain ⟨y50,y51,y52⟩:=bx3 hT5.snd;have HQ2:=hid hq2;clear hq2 x40 x41 x42 y40 y41 y42;go_wp2_with fail;refine (hasOb2 p.obA p.obC p.obs nm (w.heap.size+1) _ (RdL_next h.obs hT5.below) h.obN (by have:=hT5.size; omega) y50).mono ?_
   cases hq3:p.obs.any (fun x=>x.name == nm) with
   | true=>
    rintro e W6 ⟨rfl,hb6⟩;have hT6:=hT5.next hb6
    have hno:¬ V:=fun v=>by
     rw [HV.out] at v;rw [(names_iff (nmOf:=Ob.name) _ _).2 v.2.2.1] at hq3;cases hq3
    clear HV hq3;go_wp2_with fail;go_ret;exact retE_no (by decide) hno hT6.below
   | false=>
    rintro e W6 ⟨rfl,hb6⟩;have hT6:=hT5.next hb6;obtain ⟨x60,x61,x62⟩:=bx3 hT6.fst;obtain ⟨y60,y61,y62⟩:=bx3 hT6.snd;have HQ3:=hid hq3;clear hq3 x50 x51 x52 y50 y51 y52;have hlk:(p.vrs.take k).length=k:=by rw [List.length_take]; omega
    have hcall:=hasVr1 (some ⟨b,off,none⟩) p.vrC (p.vrs.take k) nm (w.heap.size+1) W6 (by have h9:=RdL.take (RdL_next h.vrs hT6.below) (fun _=>rfl) (k:=k) (by omega); rw [hA] at h9; exact h9) (by rw [hlk]; unfold maxLen; omega) (by have:=hT6.size; omega) y60;rw [hlk] at hcall;have HC:=hid hcall;clear hcall hlk;go_wp2_with fail;refine (HC.out).mono ?_
    cases hq5:(p.vrs.take k).any (fun x=>x.name == nm) with
    | true=>
     rintro e W8 ⟨rfl,hb8⟩;have hT8:=hT6.next hb8
     have hno:¬ V:=fun v=>by
      rw [HV.out] at v;rw [(names_iff (nmOf:=Vr.name) _ _).2 v.2.2.2] at hq5;cases hq5
     clear HV hq5;go_wp2_with fail;go_ret;exact retE_no (by decide) hno hT8.below
    | false=>
     rintro e W8 ⟨rfl,hb8⟩;have hT8:=hT6.next hb8
     have hyes:V:=by
      rw [HV.out];exact ⟨HQ1.out,HQ2.out,(names_iff (nmOf:=Ob.name) _ _).1 HQ3.out,(names_iff (nmOf:=Vr.name) _ _).1 hq5⟩
     clear HV hq5;go_wp2_with fail;go_ret;exact retE_ok hyes hT8.below

theorem refVr_any (p:Prg) (k:Nat) (hk:k<p.vrs.length) (w:World) (h:Lies w w.heap.size p):Calls Tryz.prog 63 #[p.val,.int .i64 k] w (RetE (vrOk p k p.vrs[k]) w):=by
 have hn:=h.vrN;have hno':=h.obN;unfold maxLen at hn hno';obtain ⟨b,off,hA,hb,c0,c1,c2⟩:=h.vr hk;have hnm:=h.vrNm p.vrs[k] (List.getElem_mem _);obtain ⟨o,ho⟩:∃ o,p.vrs[k]=o:=⟨_,rfl⟩
 rw [ho] at c0 c1 c2 hnm ⊢;obtain ⟨nm,ini,atm⟩:=o;dsimp only at c0 c1 c2 hnm;obtain ⟨V,hV⟩:∃ V,V=vrOk p k ⟨nm,ini,atm⟩:=⟨_,rfl⟩
 rw [← hV];have HV:=hid (show V↔nameOk nm.data.toList=true∧inR2 ini (-1099511627776) 1099511627776=true∧(∀ q∈p.obs,q.name≠nm)∧∀ q∈p.vrs.take k,q.name≠nm from by rw [hV]; rfl);clear hV;have hk0:=zi k;have hk1:(k:Int)<(p.vrs.length:Int):=by omega
 have hval:p.val=.agg #[.slice p.funA p.funs.length p.funC,.slice p.obA p.obs.length p.obC,.slice (some ⟨b,off,none⟩) p.vrs.length p.vrC]:=by rw [Prg.val,hA]
 rw [hval];have hT:=two_new w #[.slice p.funA p.funs.length p.funC,.slice p.obA p.obs.length p.obC,.slice (some ⟨b,off,none⟩) p.vrs.length p.vrC] #[.string nm,.int .i64 ini,.bool atm] 26 67;go_enter Tryz.func63,Tryz.ntmps63;go_wp2_with fail;generalize World.alloc (World.alloc w _) _=W1 at hT ⊢;refine (refName_any nm hnm _).mono ?_
 cases hq1:nameOk nm.data.toList with
 | false=>
  rintro e W4 ⟨rfl,hb4⟩;have hT4:=hT.next hb4;have hno:¬ V:=fun v=>by rw [HV.out] at v; exact absurd (hq1.symm.trans v.1) (by decide)
  clear HV hq1;go_wp2_with fail;go_ret;exact retE_no (by decide) hno hT4.below
 | true=>
  rintro e W4 ⟨rfl,hb4⟩;have hT4:=hT.next hb4;obtain ⟨x40,x41,x42⟩:=bx3 hT4.fst;obtain ⟨y40,y41,y42⟩:=bx3 hT4.snd;have HQ1:=hid hq1;clear hq1;go_wp2_with fail;refine (between_any _ _ _ _).mono ?_
  cases hq2:inR2 ini (-1099511627776) 1099511627776 with
  | false=>
   rintro e W5 ⟨rfl,hb5⟩;have hT5:=hT4.next hb5;have hno:¬ V:=fun v=>by rw [HV.out] at v; exact absurd (hq2.symm.trans v.2.1) (by decide)
   clear HV hq2;go_wp2_with fail;go_ret;exact retE_no (by decide) hno hT5.below
  | true=>
   rintro e W5 ⟨rfl,hb5⟩;have hT5:=hT4.next hb5;obtain ⟨x50,x51,x52⟩:=bx3 hT5.fst;obtain ⟨y50,y51,y52⟩:=bx3 hT5.snd;have HQ2:=hid hq2;clear hq2 x40 x41 x42 y40 y41 y42;go_wp2_with fail;go_loopw [6] (fun i wr=>∃ j:Nat,i=.int .i64 j∧j≤p.obs.length∧Hid ((p.obs.take j).any (fun x=>x.name == nm)=false)∧Two w wr [.slice p.funA p.funs.length p.funC,.slice p.obA p.obs.length p.obC,.slice (some ⟨b,off,none⟩) p.vrs.length p.vrC] [.string nm,.int .i64 ini,.bool atm]) (fun i _=>p.obs.length - (intOf i).toNat)
   case atStart=>exact ⟨0,rfl,by omega,hid (by simp),hT5⟩
   case round=>
    obtain ⟨j,rfl,hj,hnone,hTr⟩:=hrel;obtain ⟨x80,x81,x82⟩:=bx3 hTr.fst;obtain ⟨y80,y81,y82⟩:=bx3 hTr.snd;have hj0:=zi j;by_cases hlt:j<p.obs.length
    ·have hwr1:=Wi j (by omega)
     have hd1:=Dt (show (j:Int)<p.obs.length by omega);have hd2:=Dt hlt;have hjl2:(j:Int)<(p.obs.length:Int):=by omega
     obtain ⟨b9,off9,hA9,hb9,d0,-,-,-⟩:=h.ob hlt;rw [hA9] at x81;have hs:=any_take p.obs hlt hnone.out;obtain ⟨nm',hnm'⟩:∃ nm',p.obs[j].name=nm':=⟨_,rfl⟩
     rw [hnm'] at d0;rw [hnm'] at hs;have d0':=(hTr.below.cell (p:=⟨b9,off9+j * 4,none⟩) hb9).trans d0;have hbt:=beq_toListBytes nm' nm;obtain ⟨q,hq⟩:∃ q,(nm' == nm)=q:=⟨_,rfl⟩
     rw [hq] at hbt hs;have hbt2:(nm'.toList == nm.toList)=q:=hbt.symm;have HS:=hid hs;clear hbt hq hs d0 hnm' hnone
     cases q with
     | true=>
      have hno:¬ V:=fun v=>by
       rw [HV.out] at v;have h9:=(names_iff (nmOf:=Ob.name) _ _).2 v.2.2.1;rw [any_of_take' HS.out] at h9; cases h9
      clear HV;go_wp2_with fail;go_quiet (fail);go_wp2_with fail;go_ret;exact retE_no (by decide) hno (hTr.below.trans (below_drews _ _ _))
     | false=>
      go_wp2_with fail;go_quiet (fail);go_wp2_with fail;exact ⟨⟨j+1,by go_num,by omega,hid HS.out,hTr.next (below_drews _ _ _)⟩,by simp [intOf]; omega⟩
    ·have hd1:=Df (show ¬ (j:Int)<p.obs.length by omega)
     have hd2:=Df hlt;obtain rfl:j=p.obs.length:=by omega
     have HN:=hid (show (p.obs.any fun x=>x.name == nm)=false from by have:=hnone.out; rwa [List.take_length] at this);clear hnone;go_wp2_with fail;go_loopw [7] (fun i wr=>∃ j:Nat,i=.int .i64 j∧j≤k∧Hid ((p.vrs.take j).any (fun x=>x.name == nm)=false)∧Two w wr [.slice p.funA p.funs.length p.funC,.slice p.obA p.obs.length p.obC,.slice (some ⟨b,off,none⟩) p.vrs.length p.vrC] [.string nm,.int .i64 ini,.bool atm]) (fun i _=>k - (intOf i).toNat)
     case atStart=>exact ⟨0,rfl,by omega,hid (by simp),hTr⟩
     case round=>
      obtain ⟨j,rfl,hj,hnone,hTq⟩:=hrel;obtain ⟨z80,z81,z82⟩:=bx3 hTq.fst;obtain ⟨u80,u81,u82⟩:=bx3 hTq.snd;have hj0:=zi j;have hwr1:=Wi j (by omega);by_cases hlt:j<k
      ·have hd1:=Dt (show (j:Int)<k by omega)
       have hd2:=Dt hlt;have hjl:j<p.vrs.length:=by omega
       have hjl2:(j:Int)<(p.vrs.length:Int):=by omega
       obtain ⟨b9,off9,hA9,hb9,d0,-,-⟩:=h.vr hjl;obtain ⟨rfl,rfl⟩:b9=b∧off9=off:=by rw [hA] at hA9; injection hA9 with e; injection e with e1 e2; exact ⟨e1.symm,e2.symm⟩
       have hs:=any_take p.vrs hjl hnone.out;obtain ⟨nm',hnm'⟩:∃ nm',p.vrs[j].name=nm':=⟨_,rfl⟩
       rw [hnm'] at d0;rw [hnm'] at hs;have d0':=(hTq.below.cell (p:=⟨b9,off9+j * 3,none⟩) hb9).trans d0;have hbt:=beq_toListBytes nm' nm;obtain ⟨q,hq⟩:∃ q,(nm' == nm)=q:=⟨_,rfl⟩
       rw [hq] at hbt hs;have hbt2:(nm'.toList == nm.toList)=q:=hbt.symm;have HS:=hid hs;clear hbt hq hs d0 hA9 hnm' hnone
       cases q with
       | true=>
        have hno:¬ V:=fun v=>by
         rw [HV.out] at v;have h9:=(names_iff (nmOf:=Vr.name) _ _).2 v.2.2.2
         have h10:(p.vrs.take k).any (fun x=>x.name == nm)=true:=by
          have e:(p.vrs.take k).take (j+1)=p.vrs.take (j+1):=by rw [List.take_take,Nat.min_eq_left (by omega)]
          exact any_of_take' (k:=j) (by rw [e]; exact HS.out)
         rw [h10] at h9; cases h9
        clear HV;go_wp2_with fail;go_quiet (fail);go_wp2_with fail;go_ret;exact retE_no (by decide) hno (hTq.below.trans (below_drews _ _ _))
       | false=>
        go_wp2_with fail;go_quiet (fail);go_wp2_with fail;exact ⟨⟨j+1,by go_num,by omega,hid HS.out,hTq.next (below_drews _ _ _)⟩,by simp [intOf]; omega⟩
      ·have hd1:=Df (show ¬ (j:Int)<k by omega)
       have hd2:=Df hlt;obtain rfl:j=k:=by omega
       have hyes:V:=by
        rw [HV.out];exact ⟨HQ1.out,HQ2.out,(names_iff (nmOf:=Ob.name) _ _).1 HN.out,(names_iff (nmOf:=Vr.name) _ _).1 hnone.out⟩
       clear HV;go_wp2_with fail;go_ret;exact retE_ok hyes hTq.below
end Go.Proofs.YtkpjdanfpolimaaGreat
