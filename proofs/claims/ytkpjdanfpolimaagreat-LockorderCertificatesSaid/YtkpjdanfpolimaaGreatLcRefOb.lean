/- ref13.checkObject, walked. Conditions: the program lies in memory. -/
import Derived.Test.YtkpjdanfpolimaaGreatLcSlice
import Derived.Deep.QuietTactic
import Derived.BigQuiet
import Derived.Deep.Cut
set_option maxRecDepth 100000
set_option maxHeartbeats 3200000
namespace Go.Proofs.YtkpjdanfpolimaaGreat
open Go.RowKit
theorem below_drews (B:Nat) (w:World) (n:Nat):Below B w (w.drewN n):=⟨rfl,rfl,rfl,Nat.le_refl _,fun _ _=>rfl⟩
theorem refOb_any (p:Prg) (k:Nat) (hk:k<p.obs.length) (w:World) (h:Lies w w.heap.size p):Calls Tryz.prog 62 #[p.val,.int .i64 k] w (RetE (obOk p k p.obs[k]) w):=by
 have hn:=h.obN;unfold maxLen at hn;obtain ⟨b,off,hA,hb,c0,c1,c2,c3⟩:=h.ob hk;have hnm:=h.obNm p.obs[k] (List.getElem_mem _);obtain ⟨o,ho⟩:∃ o,p.obs[k]=o:=⟨_,rfl⟩
 rw [ho] at c0 c1 c2 c3 hnm ⊢;obtain ⟨nm,kd,sz,ot⟩:=o;dsimp only at c0 c1 c2 c3 hnm;obtain ⟨V,hV⟩:∃ V,V=obOk p k ⟨nm,kd,sz,ot⟩:=⟨_,rfl⟩
 rw [← hV];have HV:=hid (show V↔obOk p k ⟨nm,kd,sz,ot⟩ from by rw [hV]);clear hV;have hk0:=zi k;have hk1:(k:Int)<(p.obs.length:Int):=by omega
 have hval:p.val=.agg #[.slice p.funA p.funs.length p.funC,.slice (some ⟨b,off,none⟩) p.obs.length p.obC,.slice p.vrA p.vrs.length p.vrC]:=by rw [Prg.val,hA]
 rw [hval];have hT:=two_new w #[.slice p.funA p.funs.length p.funC,.slice (some ⟨b,off,none⟩) p.obs.length p.obC,.slice p.vrA p.vrs.length p.vrC] #[.string nm,.int .i64 kd,.int .i64 sz,.int .i64 ot] 26 65;go_enter Tryz.func62,Tryz.ntmps62;go_wp2_with fail;generalize World.alloc (World.alloc w _) _=W1 at hT ⊢;refine (refName_any nm hnm _).mono ?_
 cases hq1:nameOk nm.data.toList with
 | false=>
  rintro e W4 ⟨rfl,hb4⟩;have hT4:=hT.next hb4;have hno:¬ V:=fun v=>by rw [HV.out] at v; exact absurd (hq1.symm.trans v.1) (by decide)
  clear HV hq1;go_wp2_with fail;go_ret;exact retE_no (by decide) hno hT4.below
 | true=>
  rintro e W4 ⟨rfl,hb4⟩;have hT4:=hT.next hb4;obtain ⟨x40,x41,x42⟩:=bx3 hT4.fst;obtain ⟨y40,y41,y42,y43⟩:=bx4 hT4.snd;have HQ1:=hid hq1;clear hq1;go_wp2_with fail;refine (between_any _ _ _ _).mono ?_
  cases hq2:inR2 kd 1 9 with
  | false=>
   rintro e W5 ⟨rfl,hb5⟩;have hT5:=hT4.next hb5;have hno:¬ V:=fun v=>by rw [HV.out] at v; exact absurd (hq2.symm.trans v.2.1) (by decide)
   clear HV hq2;go_wp2_with fail;go_ret;exact retE_no (by decide) hno hT5.below
  | true=>
   rintro e W5 ⟨rfl,hb5⟩;have hT5:=hT4.next hb5;obtain ⟨x50,x51,x52⟩:=bx3 hT5.fst;obtain ⟨y50,y51,y52,y53⟩:=bx4 hT5.snd;have HQ2:=hid hq2;have hkr:1≤kd∧kd≤9:=by unfold inR2 at hq2; simpa using hq2
   clear hq2 x40 x41 x42 y40 y41 y42 y43;have hkd:kd=1∨kd=2∨kd=3∨kd=4∨kd=5∨kd=6∨kd=7∨kd=8∨kd=9:=by omega
   have hwr:=Wj p.obs.length (by omega);clear hkr;go_upto_region 7 with fail;rename_i K9 hK9 K7 hK7
   have key9:∀ (u9 u10 u11 u12 u13 u14 u15 u16 u17 u18 u19 u20 u21 u22 u23 u24:Value) (hi:Int),(kd=6→hi=100)→(kd≠6→hi=0)→K9 ⟨#[.agg #[.slice p.funA p.funs.length p.funC,.slice (some ⟨b,off,none⟩) p.obs.length p.obC,.slice p.vrA p.vrs.length p.vrC],.int .i64 k,.pointer (some ⟨w.heap.size,0,none⟩),undef,.int .i64 0,.pointer (some ⟨w.heap.size+1,0,none⟩),.int .i64 0,.int .i64 hi,undef,u9,u10,u11,u12,u13,u14,u15,u16,u17,u18,u19,u20,u21,u22,u23,u24,undef,undef,undef,undef,undef,undef,undef,undef,undef,undef,undef,undef,undef,undef,undef,undef,undef,undef,undef,undef,undef,undef,undef,undef,undef,undef,undef,undef,undef,undef,undef,undef,undef,undef,undef,undef,undef,undef,undef,undef,undef,undef,undef,undef,undef,undef,undef,undef,undef,undef,undef,undef,undef,undef,undef,undef,undef,undef,undef,undef,undef,undef,undef,undef,undef,undef,undef,undef,undef],[]⟩ W5:=by
    intro u9 u10 u11 u12 u13 u14 u15 u16 u17 u18 u19 u20 u21 u22 u23 u24 hi hi1 hi2;refine hK9 _ _ ?_;clear hK9 hK7;go_upto_region 9 with fail;rename_i K11 hK11 K10 hK10
    have key11:∀ (u9 u10 u11 u12 u13 u14 u15 u16 u17 u18 u19 u20 u21 u22 u23 u24 u25 u26 u27 u28 u29 u30 u31 u32 u33 u34 u35 u36 u37 u38 u39 u40 u41 u42:Value) (lo hi:Int),lo=(sizesF kd).1→hi=(sizesF kd).2→K11 ⟨#[.agg #[.slice p.funA p.funs.length p.funC,.slice (some ⟨b,off,none⟩) p.obs.length p.obC,.slice p.vrA p.vrs.length p.vrC],.int .i64 k,.pointer (some ⟨w.heap.size,0,none⟩),undef,.int .i64 0,.pointer (some ⟨w.heap.size+1,0,none⟩),.int .i64 lo,.int .i64 hi,undef,u9,u10,u11,u12,u13,u14,u15,u16,u17,u18,u19,u20,u21,u22,u23,u24,u25,u26,u27,u28,u29,u30,u31,u32,u33,u34,u35,u36,u37,u38,u39,u40,u41,u42,undef,undef,undef,undef,undef,undef,undef,undef,undef,undef,undef,undef,undef,undef,undef,undef,undef,undef,undef,undef,undef,undef,undef,undef,undef,undef,undef,undef,undef,undef,undef,undef,undef,undef,undef,undef,undef,undef,undef,undef,undef,undef,undef,undef,undef,undef,undef,undef,undef,undef,undef],[]⟩ W5:=by
     intro u9 u10 u11 u12 u13 u14 u15 u16 u17 u18 u19 u20 u21 u22 u23 u24 u25 u26 u27 u28 u29 u30 u31 u32 u33 u34 u35 u36 u37 u38 u39 u40 u41 u42 lo hi hlo hhi;refine hK11 _ _ ?_;have HLO:=hid hlo;have HHI:=hid hhi;clear hK11 hK10 hi1 hi2 hlo hhi;go_wp2_with fail;refine (between_any _ _ _ _).mono ?_
     cases hq3:inR2 sz lo hi with
     | false=>
      rintro e W6 ⟨rfl,hb6⟩;have hT6:=hT5.next hb6
      have hno:¬ V:=fun v=>by
       have h9:=(HV.out.1 v).2.2.1;rw [show inR2 (Ob.size ⟨nm,kd,sz,ot⟩) (sizesF (Ob.kind ⟨nm,kd,sz,ot⟩)).1 (sizesF (Ob.kind ⟨nm,kd,sz,ot⟩)).2=inR2 sz lo hi from by rw [HLO.out,HHI.out],hq3] at h9;cases h9
      clear HV hq3;go_wp2_with fail;go_ret;exact retE_no (by decide) hno hT6.below
     | true=>
      rintro e W6 ⟨rfl,hb6⟩;have hT6:=hT5.next hb6;obtain ⟨x60,x61,x62⟩:=bx3 hT6.fst;obtain ⟨y60,y61,y62,y63⟩:=bx4 hT6.snd;have HQ3:=hid hq3;clear hq3 x50 x51 x52 y50 y51 y52 y53;go_upto_region 14 with fail;rename_i K21 hK21 K14 hK14
      have key21:∀ (u22 u23 u24 u25 u26 u27 u28 u29 u30 u31 u32 u33 u34 u35 u36 u37 u38 u39 u40 u41 u42 u43 u44 u45 u46 u47 u48 u49 u50 u51 u52 u53 u54 u55 u56 u57 u58 u59 u60:Value) (l2 h2:Int),l2=(othersF p.obs.length kd).1→h2=(othersF p.obs.length kd).2→K21 ⟨#[.agg #[.slice p.funA p.funs.length p.funC,.slice (some ⟨b,off,none⟩) p.obs.length p.obC,.slice p.vrA p.vrs.length p.vrC],.int .i64 k,.pointer (some ⟨w.heap.size,0,none⟩),undef,.int .i64 0,.pointer (some ⟨w.heap.size+1,0,none⟩),.int .i64 l2,.int .i64 h2,undef,u9,u10,u11,u12,u13,u14,u15,u16,u17,u18,u19,u20,u21,u22,u23,u24,u25,u26,u27,u28,u29,u30,u31,u32,u33,u34,u35,u36,u37,u38,u39,u40,u41,u42,u43,u44,u45,u46,u47,u48,u49,u50,u51,u52,u53,u54,u55,u56,u57,u58,u59,u60,undef,undef,undef,undef,undef,undef,undef,undef,undef,undef,undef,undef,undef,undef,undef,undef,undef,undef,undef,undef,undef,undef,undef,undef,undef,undef,undef,undef,undef,undef,undef,undef,undef],[]⟩ W6:=by
       intro u22 u23 u24 u25 u26 u27 u28 u29 u30 u31 u32 u33 u34 u35 u36 u37 u38 u39 u40 u41 u42 u43 u44 u45 u46 u47 u48 u49 u50 u51 u52 u53 u54 u55 u56 u57 u58 u59 u60 l2 h2 hl2 hh2;refine hK21 _ _ ?_;clear hK21 hK14;have HV2:Hid (V↔nameOk nm.data.toList=true∧inR2 kd 1 9=true∧inR2 sz lo hi=true∧inR2 ot l2 h2=true∧(kd=3→∃ q,p.obs[ot.toNat]? = some q∧q.kind=1)∧∀ q∈p.obs.take k,q.name≠nm):=hid (by rw [HLO.out,HHI.out,hl2,hh2]; exact HV.out);have hl3:kd=3→l2=0∧h2=(p.obs.length:Int) - 1:=fun e=>by rw [hl2,hh2,e]; exact ⟨rfl,rfl⟩
       have HL3:=hid hl3;clear hl2 hh2 hl3 HV;go_wp2_with fail;refine (between_any _ _ _ _).mono ?_
       cases hq4:inR2 ot l2 h2 with
       | false=>
        rintro e W7 ⟨rfl,hb7⟩;have hT7:=hT6.next hb7;have hno:¬ V:=fun v=>by rw [HV2.out] at v; exact absurd (hq4.symm.trans v.2.2.2.1) (by decide)
        clear HV2 hq4;go_wp2_with fail;go_ret;exact retE_no (by decide) hno hT7.below
       | true=>
        rintro e W7 ⟨rfl,hb7⟩;have hT7:=hT6.next hb7;obtain ⟨x70,x71,x72⟩:=bx3 hT7.fst;obtain ⟨y70,y71,y72,y73⟩:=bx4 hT7.snd;have HQ4:=hid hq4;clear x60 x61 x62 y60 y61 y62 y63 hq4;go_upto_region 23 with fail;rename_i K25 hK25 K24 hK24
        have key25:∀ (u61 u62 u63 u64 u65 u66 u67 u68 u69 u70 u71 u72 u73 u74 u75 u76 u77 u78 u79:Value),(kd=3→∃ q,p.obs[ot.toNat]? = some q∧q.kind=1)→K25 ⟨#[.agg #[.slice p.funA p.funs.length p.funC,.slice (some ⟨b,off,none⟩) p.obs.length p.obC,.slice p.vrA p.vrs.length p.vrC],.int .i64 k,.pointer (some ⟨w.heap.size,0,none⟩),undef,.int .i64 0,.pointer (some ⟨w.heap.size+1,0,none⟩),.int .i64 l2,.int .i64 h2,undef,u9,u10,u11,u12,u13,u14,u15,u16,u17,u18,u19,u20,u21,u22,u23,u24,u25,u26,u27,u28,u29,u30,u31,u32,u33,u34,u35,u36,u37,u38,u39,u40,u41,u42,u43,u44,u45,u46,u47,u48,u49,u50,u51,u52,u53,u54,u55,u56,u57,u58,u59,u60,u61,u62,u63,u64,u65,u66,u67,u68,u69,u70,u71,u72,u73,u74,u75,u76,u77,u78,u79,undef,undef,undef,undef,undef,undef,undef,undef,undef,undef,undef,undef,undef,undef],[]⟩ W7:=by
         intro u61 u62 u63 u64 u65 u66 u67 u68 u69 u70 u71 u72 u73 u74 u75 u76 u77 u78 u79 h3c;refine hK25 _ _ ?_;clear hK25 hK24 x70 x71 x72 y70 y71 y72 y73;have HC:Hid (nameOk nm.data.toList=true∧inR2 kd 1 9=true∧inR2 sz lo hi=true∧inR2 ot l2 h2=true∧(kd=3→∃ q,p.obs[ot.toNat]? = some q∧q.kind=1)):=hid ⟨HQ1.out,HQ2.out,HQ3.out,HQ4.out,h3c⟩;clear h3c;go_wp2_with fail;go_loopw [8] (fun i wr=>∃ j:Nat,i=.int .i64 j∧j≤k∧Hid ((p.obs.take j).any (fun x=>x.name == nm)=false)∧Two w wr [.slice p.funA p.funs.length p.funC,.slice (some ⟨b,off,none⟩) p.obs.length p.obC,.slice p.vrA p.vrs.length p.vrC] [.string nm,.int .i64 kd,.int .i64 sz,.int .i64 ot]) (fun i _=>k - (intOf i).toNat)
         case atStart=>exact ⟨0,rfl,by omega,hid (by simp),hT7⟩
         case round=>
          obtain ⟨j,rfl,hj,hnone,hTr⟩:=hrel;obtain ⟨x80,x81,x82⟩:=bx3 hTr.fst;obtain ⟨y80,y81,y82,y83⟩:=bx4 hTr.snd;have hj0:=zi j;have hwr1:=Wi j (by omega);by_cases hlt:j<k
          ·have hd1:=Dt (show (j:Int)<k by omega)
           have hd2:=Dt hlt;have hjl:j<p.obs.length:=by omega
           have hjl2:(j:Int)<(p.obs.length:Int):=by omega
           obtain ⟨b9,off9,hA9,hb9,d0,-,-,-⟩:=h.ob hjl;obtain ⟨rfl,rfl⟩:b9=b∧off9=off:=by rw [hA] at hA9; injection hA9 with e; injection e with e1 e2; exact ⟨e1.symm,e2.symm⟩
           have hs:=any_take p.obs hjl hnone.out;obtain ⟨nm',hnm'⟩:∃ nm',p.obs[j].name=nm':=⟨_,rfl⟩
           rw [hnm'] at d0;rw [hnm'] at hs;have d0':=(hTr.below.cell (p:=⟨b9,off9+j * 4,none⟩) hb9).trans d0;have hbt:=beq_toListBytes nm' nm;obtain ⟨q,hq⟩:∃ q,(nm' == nm)=q:=⟨_,rfl⟩
           rw [hq] at hbt hs;have hbt2:(nm'.toList == nm.toList)=q:=hbt.symm;have HS:=hid hs;clear hbt hq hs d0 hA9 hnm' hnone
           cases q with
           | true=>
            have hno:¬ V:=fun v=>by
             rw [HV2.out] at v;have h9:=(names_iff (nmOf:=Ob.name) _ _).2 v.2.2.2.2.2
             have h10:(p.obs.take k).any (fun x=>x.name == nm)=true:=by
              have e:(p.obs.take k).take (j+1)=p.obs.take (j+1):=by rw [List.take_take,Nat.min_eq_left (by omega)]
              exact any_of_take' (by rw [e]; exact HS.out)
             rw [h10] at h9; cases h9
            clear HV2 HC;go_wp2_with fail;go_quiet (fail);go_wp2_with fail;go_ret;exact retE_no (by decide) hno (hTr.below.trans (below_drews _ _ _))
           | false=>
            clear HC;go_wp2_with fail;go_quiet (fail);go_wp2_with fail;exact ⟨⟨j+1,by go_num,by omega,hid HS.out,hTr.next (below_drews _ _ _)⟩,by simp [intOf]; omega⟩
          ·have hd1:=Df (show ¬ (j:Int)<k by omega)
           have hd2:=Df hlt;obtain rfl:j=k:=by omega
           have hyes:V:=by
            rw [HV2.out];exact ⟨HC.out.1,HC.out.2.1,HC.out.2.2.1,HC.out.2.2.2.1,HC.out.2.2.2.2,(names_iff (nmOf:=Ob.name) _ _).1 hnone.out⟩
           clear HV2 HC;go_wp2_with fail;go_ret;exact retE_ok hyes hTr.below
        have HK25:=hid key25;clear hK25 key25;by_cases h3:kd=3
        ·obtain ⟨h31,h32⟩:=HL3.out h3
         have hrng:0≤ot∧ot≤(p.obs.length:Int) - 1:=by have hq4:=HQ4.out; rw [h31,h32] at hq4; unfold inR2 at hq4; simpa using hq4
         subst h3;clear h31 h32;obtain ⟨u,hu⟩:∃ u:Nat,ot=(u:Int):=⟨ot.toNat,by omega⟩
         subst hu;have hul:u<p.obs.length:=by omega
         obtain ⟨b',off',hA',hb',d0,d1,d2,d3⟩:=h.ob hul;obtain ⟨rfl,rfl⟩:b'=b∧off'=off:=by rw [hA] at hA'; injection hA' with e; injection e with e1 e2; exact ⟨e1.symm,e2.symm⟩
         have d1':=(hT7.below.cell (p:=⟨b',off'+u * 4+1,none⟩) hb').trans d1;clear d0 d1 d2 d3 hA';have hul2:(u:Int)<(p.obs.length:Int):=by omega
         by_cases hm1:p.obs[u].kind=1
         ·have e1:(p.obs[u].kind != 1)=false:=by simpa using hm1
          have HC:=hid (show ((3:Int)=3→∃ q,p.obs[((u:Nat):Int).toNat]? = some q∧q.kind=1) from fun _=>⟨p.obs[u],by rw [show ((u:Nat):Int).toNat=u from by simp]; exact List.getElem?_eq_getElem hul,hm1⟩);clear hm1;go_wp2_with fail;exact HK25.out _ _ _ _ _ _ _ _ _ _ _ _ _ _ _ _ _ _ _ HC.out
         ·have e1:(p.obs[u].kind != 1)=true:=by simpa using hm1
          have hno:¬ V:=fun v=>by
           rw [HV2.out] at v;obtain ⟨q,hq,hq1⟩:=v.2.2.2.2.1 rfl;rw [show ((u:Nat):Int).toNat=u from by simp,List.getElem?_eq_getElem hul] at hq;injection hq with hq;exact hm1 (by rw [hq]; exact hq1)
          have HNO:=hid hno;clear HV2 hm1 hno;go_wp2_with fail;go_ret;exact retE_no (by decide) HNO.out hT7.below
        ·have e1:(kd == 3)=false:=by simpa using h3
         have HC:=hid (show (kd=3→∃ q,p.obs[ot.toNat]? = some q∧q.kind=1) from fun z=>absurd z h3);clear h3;go_wp2_with fail;exact HK25.out _ _ _ _ _ _ _ _ _ _ _ _ _ _ _ _ _ _ _ HC.out
      have HK21:=hid key21;clear hK21 key21;rcases hkd with rfl | rfl | rfl | rfl | rfl | rfl | rfl | rfl | rfl <;> (go_wp2_with fail; exact HK21.out _ _ _ _ _ _ _ _ _ _ _ _ _ _ _ _ _ _ _ _ _ _ _ _ _ _ _ _ _ _ _ _ _ _ _ _ _ _ _ _ _ (by rfl) (by rfl))
    have HK11:=hid key11;clear hK11 key11;rcases hkd with rfl | rfl | rfl | rfl | rfl | rfl | rfl | rfl | rfl <;> first | obtain rfl:=hi1 rfl | obtain rfl:=hi2 (by decide)
    all_goals (clear hi1 hi2; go_wp2_with fail; exact HK11.out _ _ _ _ _ _ _ _ _ _ _ _ _ _ _ _ _ _ _ _ _ _ _ _ _ _ _ _ _ _ _ _ _ _ _ _ (by rfl) (by rfl))
   have HK9:=hid key9;clear hK9 key9;rcases hkd with rfl | rfl | rfl | rfl | rfl | rfl | rfl | rfl | rfl <;> (go_wp2_with fail; exact HK9.out _ _ _ _ _ _ _ _ _ _ _ _ _ _ _ _ _ (by first | exact fun _=>rfl | exact fun z=>absurd z (by decide)) (by first | exact fun _=>rfl | exact fun z=>absurd rfl z))
end Go.Proofs.YtkpjdanfpolimaaGreat
