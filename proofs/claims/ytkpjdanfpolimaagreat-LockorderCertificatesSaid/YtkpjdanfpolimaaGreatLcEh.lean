/- The reference's Verify, walked; lockorder's Verify of any program. Conditions: the program · lockorder's Suspects, walked. Conditions: the program lies in memory, it is valid. · The reference's Components, walked: the classes. Conditions: t -/
import Derived.Test.YtkpjdanfpolimaaGreatLcDg9
import Derived.Test.YtkpjdanfpolimaaGreatLcEc
import Derived.Test.YtkpjdanfpolimaaGreatLcDg8
import Derived.Test.YtkpjdanfpolimaaGreatLcDgS
import Derived.Test.YtkpjdanfpolimaaGreatLcRaW
set_option maxRecDepth 100000
set_option maxHeartbeats 6400000
namespace Go.Proofs.YtkpjdanfpolimaaGreat
section
open Go.RowKit Go.Shelf Go.Sort
def VerR (p:Prg) (k:Int) (cs:List Int) (w:World):Ending→World→Prop:=fun e W=>∃ er:Int,e=.returned (.int .i64 er)∧Below w.heap.size w W∧(prgOk p→er=verE p k cs)∧(¬ prgOk p→er=1)
theorem rverify_any (p:Prg) (k:Int) (A:Option Addr) (c:Nat) (cs:List Int) (hcl:cs.length≤2000) (w:World) (h:Lies w w.heap.size p) (hcs:Rd w w.heap.size 1 A cs.length (i64s cs)) :
  Calls Tryz.prog 15 #[p.val,.agg #[.int .i64 k,.slice A cs.length c]] w (VerR p k cs w):=by
 have HGR:=hid (fun (W:World) (hb:Below w.heap.size w W)=>rgraph_any p W (h.next hb));have HLK:=hid (fun (W:World) (hb:Below w.heap.size w W) (k:Nat) (hk:k<p.obs.length)=>rlock_any p k hk W (h.next hb));have HWF:=hid (fun (hv:prgOk p)=>wf_of hv);have HNO:Hid (verB p k cs=false→verE p k cs=28):=hid (fun e=>by unfold verE; rw [e]; rfl);unfold Prg.val at HGR HLK ⊢;unfold VerR;clear h;go_enter Tryz.func15,Tryz.ntmps15;go_upto_region 1 with fail;have hT1:=two_new w #[.slice p.funA p.funs.length p.funC,.slice p.obA p.obs.length p.obC,.slice p.vrA p.vrs.length p.vrC] #[.int .i64 k,.slice A cs.length c] 26 29;have hz1:w.heap.size+2≤((w.alloc (.cells #[.slice p.funA p.funs.length p.funC,.slice p.obA p.obs.length p.obC,.slice p.vrA p.vrs.length p.vrC] 26)).alloc (.cells #[.int .i64 k,.slice A cs.length c] 29)).heap.size:=by simp
 have hB1:CBox (w.heap.size+1) k A c cs ((w.alloc (.cells #[.slice p.funA p.funs.length p.funC,.slice p.obA p.obs.length p.obC,.slice p.vrA p.vrs.length p.vrC] 26)).alloc (.cells #[.int .i64 k,.slice A cs.length c] 29)):=⟨hT1.snd,Rd.more (hcs.below hT1.below) (by omega)⟩
 clear hcs;generalize World.alloc _ _=w1 at hT1 hz1 hB1 ⊢;obtain ⟨x0,x1,x2⟩:=bx3 hT1.fst;have HG1:=hid (HGR.out w1 hT1.below);go_wp2_with fail;refine HG1.out.mono ?_;rintro e w2 ⟨l,Ag,Cg,er,rfl,hE2,hb2,hok,hno⟩;have hT2:=hT1.next hb2;have hB2:=hB1.below hb2 (by omega);have hz2:w.heap.size+2≤w2.heap.size:=Nat.le_trans hz1 hb2.size;clear x0 x1 x2 HG1 hT1 hb2 HGR hB1 hz1;obtain ⟨x0,x1,x2⟩:=bx3 hT2.fst;by_cases hv:prgOk p;rotate_left
 ·obtain ⟨rfl,rfl⟩:=hno hv
  have HV:=hid hv;clear hok hno hv;go_wp2_with fail;go_ret;exact ⟨1,rfl,hT2.below,fun z=>absurd z HV.out,fun _=>rfl⟩
 obtain ⟨rfl,rfl⟩:=hok hv;have HV:=hid hv;have hob:=(HWF.out hv).obs;have hge:=graph_range (HWF.out hv);have hgl:=graph_len hob;have HGE:=hid hge;clear hok hno hv hge;have b0:=hB2.bx 0 _ rfl;have b1:=hB2.bx 1 _ rfl;by_cases hk1:k=1;rotate_left
 ·have e1:(k != 1)=true:=by simpa using hk1
  have HVE:=hid (HNO.out (by unfold verB; rw [decide_eq_false hk1]; rfl));clear hk1;go_wp2_with fail;go_ret;exact ⟨28,rfl,hT2.below,fun _=>HVE.out.symm,fun z=>absurd HV.out z⟩
 have e1:(k != 1)=false:=by simpa using hk1
 by_cases hlen:cs.length=p.obs.length;rotate_left
 ·have e2:((cs.length:Int) != (p.obs.length:Int))=true:=by simp; omega
  have e3:(cs.length != p.obs.length)=true:=by simpa using hlen
  have HVE:=hid (HNO.out (by unfold verB; rw [decide_eq_false hlen]; simp));clear hk1 hlen;go_wp2_with fail;go_ret;exact ⟨28,rfl,hT2.below,fun _=>HVE.out.symm,fun z=>absurd HV.out z⟩
 have e2:((cs.length:Int) != (p.obs.length:Int))=false:=by rw [hlen]; simp
 have e3:(cs.length != p.obs.length)=false:=by rw [hlen]; simp
 have HOK:Hid ((List.range p.obs.length).all (rkB p cs)=true→(graphOf p).any (badE cs)=false→verE p k cs=0):=hid (fun q1 q2=>by unfold verE verB; rw [q1,q2,decide_eq_true hk1,decide_eq_true hlen]; rfl);have HN1:Hid ((List.range p.obs.length).all (rkB p cs)=false→verE p k cs=28):=hid (fun q1=>HNO.out (by unfold verB; rw [q1]; simp));have HN2:Hid ((graphOf p).any (badE cs)=true→verE p k cs=28):=hid (fun q1=>HNO.out (by unfold verB; rw [q1]; simp));have HLEN:=hid hlen;clear hk1 hlen HNO;have hB0:=hB2;go_upto_region 7 with fail;clear x0 x1 x2 b0 b1 hB2 e1 e2 e3;go_loopw [7] (fun i wr=>∃ j:Nat,i=.int .i64 (j:Nat)∧j≤cs.length∧(List.range j).all (rkB p cs)=true∧Below w2.heap.size w2 wr) (fun i _=>cs.length - (intOf i).toNat)
 case atStart=>exact ⟨0,rfl,by omega,rfl,Below.refl _ _⟩
 case round=>
  obtain ⟨j,rfl,hj,hall,hb⟩:=hrel;have HALL:=hid hall;clear hall;have hj0:=zi j;have hwr:=Wi j (by omega);have hzz:=hb.size;have b1:=(hB0.below hb (by omega)).bx 1 _ rfl;by_cases hlt:j<cs.length
  ·have hd1:=Dt (show (j:Int)<cs.length by omega)
   have hd2:=Dt hlt;have hjl:(j:Int)<(cs.length:Int):=by omega
   have hlo:j<p.obs.length:=by rw [← HLEN.out]; exact hlt
   obtain ⟨x0,x1,x2⟩:=bx3 (hT2.next hb).fst
   have HR0:=hid (show rkB p cs j=if lockB p.obs[j] then decide (0<cs[j]) else decide (cs[j]=0) by
    unfold rkB;rw [List.getD_eq_getElem?_getD,List.getElem?_eq_getElem hlo,List.getD_eq_getElem?_getD,List.getElem?_eq_getElem hlt]; rfl)
   have HL0:=hid (fun (W:World) (hbW:Below w.heap.size w W)=>HLK.out W hbW j hlo);have HRJ:=hid (fun (W:World) (hbW:Below w2.heap.size w2 W)=>(hB0.below hbW (by omega)).rank (i:=j) hlt);have HBX:=hid (fun (W:World) (hbW:Below w2.heap.size w2 W)=>(hB0.below hbW (by omega)).bx 1 _ rfl);have HTX:=hid (fun (W:World) (hbW:Below w2.heap.size w2 W)=>bx3 (hT2.next hbW).fst);have HSC:Hid (rkB p cs j=true→(List.range (j+1)).all (rkB p cs)=true):=hid (fun q=>by rw [List.range_succ,List.all_append,HALL.out]; simp [q]);have HSN:Hid (rkB p cs j=false→verE p k cs=28):=hid (fun q=>HN1.out (List.all_eq_false.2 ⟨j,List.mem_range.2 hlo,by rw [q]; decide⟩));generalize p.obs[j]=oj at HR0 HL0;generalize cs[j]=z at HRJ HR0;clear hlo;have HB:=hid hb;have HT:=hid hT2;go_upto_region 9 with fail;clear hb;go_wp2_with fail
   refine (HL0.out wr (HT.out.below.trans (HB.out.mono HT.out.below.size))).mono ?_;rintro e w5 ⟨rfl,hb5⟩;have hbw:=HB.out.trans (hb5.mono HB.out.size);have HBW:=hid hbw;obtain ⟨rb,roff,rfl,rj⟩:=HRJ.out w5 hbw;have b2:=HBX.out w5 hbw;obtain ⟨y0,y1,y2⟩:=HTX.out w5 hbw;clear x0 x1 x2 b1 hb5 hbw
   cases hlb:lockB oj with
   | true=>
    have HRT:Hid (rkB p cs j=decide (0<z)):=hid (by rw [HR0.out,hlb]; rfl);have HLT:Hid (lockB oj=true):=hid hlb;clear HR0 hlb;by_cases hz0:z<1
    ·have c1:=Dt hz0
     have HVE:=hid (HSN.out (by rw [HRT.out]; simp; omega));clear hz0;go_wp2_with fail;go_ret;exact ⟨28,rfl,HT.out.below.trans (HBW.out.mono HT.out.below.size),fun _=>HVE.out.symm,fun z=>absurd HV.out z⟩
    ·have c1:=Df hz0
     have HAL:=hid (HSC.out (by rw [HRT.out]; simp; omega));clear hz0;go_wp2_with fail;refine (HL0.out w5 (HT.out.below.trans (HBW.out.mono HT.out.below.size))).mono ?_;rintro e w6 ⟨rfl,hb6⟩;rw [HLT.out];have hbw6:=HBW.out.trans (hb6.mono HBW.out.size);clear hb6 y0 y1 y2 b2;go_wp2_with fail;go_round
     case rel=>exact ⟨j+1,rfl,by omega,HAL.out,hbw6⟩
     case measure=>exact ms (by omega)
   | false=>
    have HRT:Hid (rkB p cs j=decide (z=0)):=hid (by rw [HR0.out,hlb]; rfl);have HLT:Hid (lockB oj=false):=hid hlb;clear HR0 hlb;go_wp2_with fail;refine (HL0.out w5 (HT.out.below.trans (HBW.out.mono HT.out.below.size))).mono ?_;rintro e w6 ⟨rfl,hb6⟩;rw [HLT.out];have hbw6:=HBW.out.trans (hb6.mono HBW.out.size);have HBW6:=hid hbw6;clear rj b2 y0 y1 y2;obtain ⟨rb',roff',e9,rj⟩:=HRJ.out w6 hbw6;injection e9 with e9;injection e9 with e8 e7;subst e8;subst e7;have b2:=HBX.out w6 hbw6;clear hb6 hbw6;by_cases hz0:z=0
    ·have c1:(z != 0)=false:=by simpa using hz0
     have HAL:=hid (HSC.out (by rw [HRT.out]; simpa using hz0));clear hz0;go_wp2_with fail;go_round
     case rel=>exact ⟨j+1,rfl,by omega,HAL.out,HBW6.out⟩
     case measure=>exact ms (by omega)
    ·have c1:(z != 0)=true:=by simpa using hz0
     have HVE:=hid (HSN.out (by rw [HRT.out]; simpa using hz0));clear hz0;go_wp2_with fail;go_ret;exact ⟨28,rfl,HT.out.below.trans (HBW6.out.mono HT.out.below.size),fun _=>HVE.out.symm,fun z=>absurd HV.out z⟩
  ·have hd1:=Df (show ¬ (j:Int)<cs.length by omega)
   have hd2:=Df hlt;have hjn:j=p.obs.length:=by rw [← HLEN.out]; omega
   rw [hjn] at HALL;clear hjn;go_upto_region 12 with fail;have HB:=hid hb;have HED:=hid (fun (W:World) (hbW:Below w2.heap.size w2 W) (k:Nat) (hk:k<(graphOf p).length)=>(hE2.below hbW).at_ hk);have HGR2:Hid (∀ k (hk:k<(graphOf p).length),(graphOf p)[k].1<cs.length∧(graphOf p)[k].2<cs.length):=hid (fun k hk=>by rw [HLEN.out]; exact HGE.out _ (List.getElem_mem hk));clear hb b1 hE2;go_loopw [8] (fun i wr=>∃ j:Nat,i=.int .i64 (j:Nat)∧j≤(graphOf p).length∧((graphOf p).take j).any (badE cs)=false∧Below w2.heap.size w2 wr) (fun i _=>(graphOf p).length - (intOf i).toNat)
   case atStart=>exact ⟨0,rfl,by omega,rfl,HB.out⟩
   case round=>
    obtain ⟨m,rfl,hm,hany,hb⟩:=hrel;have HANY:=hid hany;have HB2:=hid hb;have HT:=hid hT2;have hm0:=zi m;have hwm:=Wi m (by omega);clear hany;by_cases hml:m<(graphOf p).length
    ·have hd3:=Dt (show (m:Int)<((graphOf p).length:Int) by omega)
     have hd4:=Dt hml;have hml2:(m:Int)<((graphOf p).length:Int):=by omega
     obtain ⟨eb,eo,rfl,hebl,h1,h2⟩:=HED.out _ hb m hml;obtain ⟨r1,r2⟩:=HGR2.out m hml;have hc:=hB0.below hb (by omega);have b1:=hc.bx 1 _ rfl;have HTK:Hid (((graphOf p).take (m+1)).any (badE cs)=badE cs (graphOf p)[m]):=hid (by rw [take_one _ _ hml,List.any_append,HANY.out]; simp);have HMM:Hid (badE cs (graphOf p)[m]=true→(graphOf p).any (badE cs)=true):=hid (fun q=>List.any_eq_true.2 ⟨_,List.getElem_mem hml,q⟩);generalize (graphOf p)[m]=x at h1 h2 r1 r2 HTK HMM;obtain ⟨u,v⟩:=x;dsimp only at h1 h2 r1 r2;obtain ⟨rb,roff,rfl,q1⟩:=hc.rank (i:=u) r1;obtain ⟨rb',roff',e9,q2⟩:=hc.rank (i:=v) r2;injection e9 with e9;injection e9 with e8 e7;subst e8;subst e7
     have HBE:Hid (badE cs (u,v)=decide (cs[v]≤cs[u])):=hid (by
      unfold badE;rw [List.getD_eq_getElem?_getD,List.getElem?_eq_getElem r2,List.getD_eq_getElem?_getD,List.getElem?_eq_getElem r1]; rfl)
     have hu0:=zi u;have hv0:=zi v;have hu1:(u:Int)<(cs.length:Int):=by omega
     have hv1:(v:Int)<(cs.length:Int):=by omega
     generalize cs[u]=y at q1 HBE;generalize cs[v]=z at q2 HBE;clear hc hb hml;by_cases hyz:z≤y
     ·have c1:=Dt hyz
      have HVE:=hid (HN2.out (HMM.out (by rw [HBE.out]; exact c1)));clear hyz;go_wp2_with fail;go_quiet (fail);go_wp2_with fail;go_ret;exact ⟨28,rfl,(HT.out.below.trans (HB2.out.mono HT.out.below.size)).trans (below_drews _ _ _),fun _=>HVE.out.symm,fun z=>absurd HV.out z⟩
     ·have c1:=Df hyz
      have HNX:Hid (((graphOf p).take (m+1)).any (badE cs)=false):=hid (by rw [HTK.out,HBE.out]; exact c1);clear hyz;go_wp2_with fail;go_quiet (fail);go_wp2_with fail;go_round
      case rel=>exact ⟨m+1,rfl,by omega,HNX.out,HB2.out.trans (below_drews _ _ _)⟩
      case measure=>exact ms (by omega)
    ·have hd3:=Df (show ¬ ((m:Int)<((graphOf p).length:Int)) by omega)
     have hd4:=Df hml;have HVE:=hid (HOK.out HALL.out (by have:=HANY.out; rwa [List.take_of_length_le (by omega)] at this));clear hml hb;go_wp2_with fail;go_ret;exact ⟨0,rfl,HT.out.below.trans (HB2.out.mono HT.out.below.size),fun _=>HVE.out.symm,fun z=>absurd HV.out z⟩
theorem lverify_no (p:Prg) (hfit:Fits p) (hv:¬ prgOk p) (k:Int) (A:Option Addr) (c:Nat) (cs:List Int) (w:World) (h:Lies w w.heap.size p) :
  Calls Tryz.prog 14 #[p.val,.agg #[.int .i64 k,.slice A cs.length c]] w (VerR p k cs w):=by
 have HGR:=hid (fun (W:World) (hb:Below w.heap.size w W)=>lograph_any p hfit W (h.next hb));have HV:=hid hv;unfold Prg.val at HGR ⊢;unfold VerR;clear h hv;go_enter Tryz.func14,Tryz.ntmps14;go_upto_region 1 with fail;have hT1:=two_new w #[.slice p.funA p.funs.length p.funC,.slice p.obA p.obs.length p.obC,.slice p.vrA p.vrs.length p.vrC] #[.int .i64 k,.slice A cs.length c] 26 29;generalize World.alloc (World.alloc _ _) _=w1 at hT1 ⊢;obtain ⟨x0,x1,x2⟩:=bx3 hT1.fst;have HG1:=hid (HGR.out w1 hT1.below);go_wp2_with fail;refine HG1.out.mono ?_;rintro e w2 ⟨l,Ag,Cg,er,rfl,-,hb2,-,hno⟩;obtain ⟨rfl,rfl⟩:=hno HV.out;have hT2:=hT1.next hb2;clear x0 x1 x2 HG1 hT1 hb2 HGR hno;go_wp2_with fail;go_ret;exact ⟨1,rfl,hT2.below,fun z=>absurd z HV.out,fun _=>rfl⟩
theorem lverify_any (p:Prg) (hfit:Fits p) (k:Int) (A:Option Addr) (c:Nat) (cs:List Int) (w:World) (h:Lies w w.heap.size p) (hcs:Rd w w.heap.size 1 A cs.length (i64s cs)) :
  Calls Tryz.prog 14 #[p.val,.agg #[.int .i64 k,.slice A cs.length c]] w (VerR p k cs w):=by
 by_cases hv:prgOk p
 ·refine (verify_any p hfit hv k A c cs w h hcs).mono ?_
  rintro e W ⟨rfl,hb⟩;exact ⟨_,rfl,hb,fun _=>rfl,fun z=>absurd hv z⟩
 ·exact lverify_no p hfit hv k A c cs w h
end
section
open Go.RowKit Go.Shelf
theorem comp_form {n:Nat} {l:List (Nat × Nat)} {c:List Nat} (h:c∈compsTo n l n):∃ u r,c=u::r∧u<n:=by
 obtain ⟨u,h1,h2,rfl⟩:=mem_comps.1 h;obtain ⟨r,e,-⟩:=class_head h1 h2;exact ⟨u,r,e,h1⟩
theorem suspects_any (p:Prg) (hfit:Fits p) (hv:prgOk p) (w:World) (h:Lies w w.heap.size p):Calls Tryz.prog 11 #[p.val] w fun e W=>∃ v,e=.returned (.tuple #[v,.int .i64 0])∧OwnLL W w.heap.size v (suspects p.obs.length (graphOf p))∧Below w.heap.size w W:=by
 obtain ⟨i1,hi1,hz⟩:=Option.map_eq_some_iff.1 listInfo;have hy0:i1.zero=some (.slice none 0 0):=congrArg (fun t=>t.1) hz;have hy1:i1.size=1:=congrArg (fun t=>t.2.1) hz;have hy2:i1.bytes=24:=congrArg (fun t=>t.2.2) hz;clear hz;have hW:=wf_of hv;have hob:=hW.obs;have hgl:=graph_len hob;have HGR:=hid (fun (W:World) (hb:Below w.heap.size w W)=>graph_any p hfit hv W (h.next hb));have HCO:=hid (fun (A:Option Addr) (c:Nat) (W:World) (hE:Eds W W.heap.size A (graphOf p))=>comps_any p.obs.length A c (graphOf p) (by omega) (by omega) (graph_range hW) (graph_strict p) W hE);have HCT:=hid (fun (A:Option Addr) (c:Nat) (e:Nat × Nat) (W:World) (hE:Eds W W.heap.size A (graphOf p))=>edContains_any A c (graphOf p) e (by omega) W hE);have hcl:=comps_len p.obs.length (graphOf p) p.obs.length
 have HFO:=hid (fun c (hc:c∈compsTo p.obs.length (graphOf p) p.obs.length)=>comp_form hc);unfold suspects;unfold Prg.val at HGR ⊢;generalize compsTo p.obs.length (graphOf p) p.obs.length=cs at HCO hcl HFO ⊢;generalize graphOf p=gr at HGR HCO HCT hgl ⊢;clear h hfit hv hW;go_enter Tryz.func11,Tryz.ntmps11;go_upto_region 1 with fail;have hT1:=one_new w #[.slice p.funA p.funs.length p.funC,.slice p.obA p.obs.length p.obC,.slice p.vrA p.vrs.length p.vrC] 26;generalize w.alloc _=w1 at hT1 ⊢;obtain ⟨x0,x1,x2⟩:=bx3 hT1.fst;have HG1:=hid (HGR.out w1 hT1.below);go_wp2_with fail;refine HG1.out.mono ?_;rintro e w2 ⟨gv,rfl,hE,hb2⟩;obtain ⟨Ag,Cg,rfl,hE2⟩:=own_eds hE;have hT2:=hT1.next hb2;clear x0 x1 x2 hE HG1 hT1 hb2 HGR;obtain ⟨x0,x1,x2⟩:=bx3 hT2.fst;have HC1:=hid (HCO.out Ag Cg w2 hE2);clear HCO;go_wp2_with fail
 refine HC1.out.mono ?_;rintro e w3 ⟨cv,rfl,hLL,hb3⟩;have hb:=hT2.below.trans (hb3.mono hT2.below.size);have hE3:Eds w3 w3.heap.size Ag gr:=Rd.more (hE2.below hb3) hb3.size;have hw2:=hT2.below.size;clear x0 x1 x2 hT2 hE2 HC1;obtain ⟨vs,hcv,hvs⟩:=hLL;obtain ⟨Ac,Cc,rfl⟩:=own_form hcv;have hrd:=Rd.of_own hcv;have hvl:vs.length=cs.length:=by have:=hcv.1; omega
 have hz3:=hb3.size;clear hcv hb3;go_upto_region 6 with fail;go_loopw [6,8,23] (fun out _ i wr=>∃ k:Nat,i=.int .i64 (k:Nat)∧k≤cs.length∧OwnLL wr w.heap.size out ((cs.take k).filter (susp gr))∧(∀ q,out.ownBlock=some q→w3.heap.size≤q)∧Below w3.heap.size w3 wr) (fun _ _ i _=>cs.length - (intOf i).toNat)
 case atStart=>exact ⟨0,rfl,by omega,OwnLL.nil _ _,fun q e=>(by cases e),Below.refl _ _⟩
 case round=>
  obtain ⟨k,rfl,hk,hO,hob6,hbr⟩:=hrel;have hk0:=zi k;have hwr:=Wi k (by omega);by_cases hlt:k<cs.length
  ·have hd1:=Dt (show (k:Int)<cs.length by omega)
   have hd2:=Dt hlt;have hjl:(k:Int)<(cs.length:Int):=by omega
   obtain ⟨cb,co,rfl,hcb,hcc⟩:=Rd.addr hrd (by omega);have hck:cs[k]? = some cs[k]:=List.getElem?_eq_getElem hlt;obtain ⟨g,cap,hvk,hgb,hgz,-,hgc⟩:=hvs k _ hck;have c0:=(hbr.cell (p:=⟨cb,co+k,none⟩) hcb).trans (hcc k _ hvk);have hge:=hbr.size;obtain ⟨u,r,hur,hun⟩:=HFO.out _ (List.getElem_mem hlt)
   have HTK:=hid (show (cs.take (k+1)).filter (susp gr)=if susp gr cs[k]=true then (cs.take k).filter (susp gr)++[cs[k]] else (cs.take k).filter (susp gr) by
    rw [List.take_add_one,hck];simp only [Option.toList_some,List.filter_append,List.filter_cons,List.filter_nil];split <;> simp)
   have hgc2:∀ q (hq:q<(cs[k]).length),wr.cell? ⟨g,q,none⟩=some (.int .i64 (cs[k])[q]):=fun q hq=>(hbr.cell (p:=⟨g,q,none⟩) hgz).trans (hgc q hq)
   have HLL:=hid hO;have hfl:((cs.take k).filter (susp gr)).length≤16:=Nat.le_trans (List.length_filter_le _ _) (by rw [List.length_take]; omega);clear hO hck hvk hgc;generalize cs[k]=cl at c0 hur HTK hgc2;subst hur;have g0:=hgc2 0 (by simp);obtain ⟨m,hm⟩:∃ m,m=(u::r).length:=⟨_,rfl⟩
   rw [← hm] at c0;have HM:=hid hm;have hm0:(0:Int)<(m:Int):=by rw [hm]; simp
   have hm00:0<m:=by omega
   by_cases hr0:r=[]
   ·subst hr0
    have hm1:m=1:=hm;have hd3:=Df (show ¬ (1:Int)<m by omega);have hd4:=Df (show ¬ (1<m) by omega);have HC:=hid (HCT.out Ag Cg (u,u) wr.drew (Rd.more (hE3.below (hbr.trans ⟨rfl,rfl,rfl,Nat.le_refl _,fun _ _=>rfl⟩)) hbr.size));unfold edV at HC;simp only [List.getElem_cons_zero] at g0;clear hm hm1;go_wp2_with fail;go_still_tail 12,(by kernel_rfl)
    change wpList _ _ _ _ _ wr.drew;have hbr2:=hbr.drew;have hO2:=HLL.out.below (below_drews wr.heap.size wr 1);change OwnLL wr.drew _ _ _ at hO2;have hgc3:∀ q (hq:q<[u].length),wr.drew.cell? ⟨g,q,none⟩=some (.int .i64 [u][q]):=hgc2;clear c0 g0 hgc2 HLL hbr hge;generalize wr.drew=wd at HC hbr2 hO2 hgc3 ⊢;go_wp2_with fail;refine HC.out.mono ?_;rintro e w4 ⟨rfl,hb4⟩;have HO4:=hO2.below hb4;have hbr4:=hbr2.trans (hb4.mono hbr2.size);have hgc4:∀ q (hq:q<[u].length),w4.cell? ⟨g,q,none⟩=some (.int .i64 [u][q]):=fun q hq=>(hb4.cell (p:=⟨g,q,none⟩) (by have:=hbr2.size; show g<_; omega)).trans (hgc3 q hq)
    clear hO2 hbr2 hgc3 hb4 HC;by_cases hin:(u,u)∈gr
    ·rw [decide_eq_true hin]
     have HSU:Hid (susp gr [u]=true):=hid (by simp [susp,hin]);clear hin;have hba:=below_alloc w4 (.cells #[.slice (some ⟨g,0,none⟩) m cap] 27);obtain ⟨vs2,h1,h2⟩:=HO4.below hba;have hug:u6.ownBlock≠some g:=fun e=>by have:=hob6 g e; omega
     have hge4:=hbr4.size;go_upto_region 10 with (at_builtin; refine wpList_append_own_at _ rfl (.tmp 41) (.tmp 43) _ rfl w.heap.size 27 i1 (.slice none 0 0) 1 24 Tryz.underlying35 hi1 hy0 hy1 hy2 rfl (by omega) _ _ _ rfl h1 ⟨w4.heap.size,0,none⟩ 1 1 [.slice (some ⟨g,0,none⟩) m cap] rfl rfl (cell_one_new _ _ _) (by simp [Value.oneCell']) (by unfold maxLen; omega) (by omega) (by simp; omega) ?_; intro v6 w6 hown6 hg6 _ hob7)
     rw [HM.out] at hown6;have hO7:=OwnLL.push h1 h2 hown6 hg6 hob7 (by omega) (by simp; omega) hug (fun q hq=>(hba.cell (p:=⟨g,q,none⟩) (by show g<_; omega)).trans (hgc4 q hq));have hO8:OwnLL w6 w.heap.size v6 ((cs.take (k+1)).filter (susp gr)):=by rw [HTK.out,if_pos HSU.out]; exact hO7
     have hob8:∀ q,v6.ownBlock=some q→w3.heap.size≤q:=fun q e=>by
      rcases hob7 with z | z
      ·exact hob6 q (z ▸ e)
      ·rw [z] at e; injection e with e; simp at e; omega
     have hbr8:Below w3.heap.size w3 w6:=(hbr4.trans (hba.mono hge4)).grown hg6 (by simp; omega) hob6;clear HO4 h1 h2 hown6 hg6 hob7 hba hO7 hbr4 hgc4;go_wp2_with fail;go_round
     case rel=>exact ⟨k+1,rfl,by omega,hO8,hob8,hbr8⟩
     case measure=>exact ms (by omega)
    ·rw [decide_eq_false hin]
     have HSU:Hid (susp gr [u]=false):=hid (by simp [susp,hin]);clear hin;have hO8:OwnLL w4 w.heap.size u6 ((cs.take (k+1)).filter (susp gr)):=by rw [HTK.out,if_neg (by rw [HSU.out]; decide)]; exact HO4
     clear HO4 hgc4;go_wp2_with fail;go_round
     case rel=>exact ⟨k+1,rfl,by omega,hO8,hob6,hbr4⟩
     case measure=>exact ms (by omega)
   ·have hm1:1<m:=by
     have:=List.length_pos_iff.2 hr0;rw [hm,List.length_cons]; omega
    have hd3:=Dt (show (1:Int)<m by omega);have hd4:=Dt hm1;have HSU:Hid (susp gr (u::r)=true):=hid (by simp [susp,List.length_pos_iff.2 hr0]);clear hm hr0;go_wp2_with fail;go_quiet (fail);have hbr4:=hbr.trans (below_drews w3.heap.size wr nq);have HO4:=HLL.out.below (below_drews wr.heap.size wr nq);have hgc4:∀ q (hq:q<(u::r).length),(wr.drewN nq).cell? ⟨g,q,none⟩=some (.int .i64 (u::r)[q]):=hgc2;clear c0 g0 hgc2 HLL hbr hge;generalize wr.drewN nq=w4 at hbr4 HO4 hgc4 ⊢;have hba:=below_alloc w4 (.cells #[.slice (some ⟨g,0,none⟩) m cap] 27);obtain ⟨vs2,h1,h2⟩:=HO4.below hba;have hug:u6.ownBlock≠some g:=fun e=>by have:=hob6 g e; omega
    have hge4:=hbr4.size;go_upto_region 10 with (at_builtin; refine wpList_append_own_at _ rfl (.tmp 41) (.tmp 43) _ rfl w.heap.size 27 i1 (.slice none 0 0) 1 24 Tryz.underlying35 hi1 hy0 hy1 hy2 rfl (by omega) _ _ _ rfl h1 ⟨w4.heap.size,0,none⟩ 1 1 [.slice (some ⟨g,0,none⟩) m cap] rfl rfl (cell_one_new _ _ _) (by simp [Value.oneCell']) (by unfold maxLen; omega) (by omega) (by simp; omega) ?_; intro v6 w6 hown6 hg6 _ hob7)
    rw [HM.out] at hown6;have hO7:=OwnLL.push h1 h2 hown6 hg6 hob7 (by omega) (by simp; omega) hug (fun q hq=>(hba.cell (p:=⟨g,q,none⟩) (by show g<_; omega)).trans (hgc4 q hq));have hO8:OwnLL w6 w.heap.size v6 ((cs.take (k+1)).filter (susp gr)):=by rw [HTK.out,if_pos HSU.out]; exact hO7
    have hob8:∀ q,v6.ownBlock=some q→w3.heap.size≤q:=fun q e=>by
     rcases hob7 with z | z
     ·exact hob6 q (z ▸ e)
     ·rw [z] at e; injection e with e; simp at e; omega
    have hbr8:Below w3.heap.size w3 w6:=(hbr4.trans (hba.mono hge4)).grown hg6 (by simp; omega) hob6;clear HO4 h1 h2 hown6 hg6 hob7 hba hO7 hbr4 hgc4;go_wp2_with fail;go_round
    case rel=>exact ⟨k+1,rfl,by omega,hO8,hob8,hbr8⟩
    case measure=>exact ms (by omega)
  ·have hd1:=Df (show ¬ (k:Int)<cs.length by omega)
   have hd2:=Df hlt;go_wp2_with fail;go_ret2;rw [List.take_of_length_le (by omega)] at hO;exact ⟨_,rfl,hO,hb.trans (hbr.mono (by omega))⟩
end
section
open Go.RowKit Go.Shelf
theorem own_blocks_off {W W':World} {B e size n D:Nat} {v:Value} {xs:List Value} (h:W.ownsRow B e size v n xs) (hv:∀ g,v.ownBlock=some g→g≠D) (hk:∀ k,B≤k→k<W.heap.size→k≠D→W'.heap[k]? = W.heap[k]?):W'.ownsRow B e size v n xs:=by
 refine ⟨h.1,?_⟩;rcases h.2 with h1 | ⟨g,cap,cur,rfl,hb,hg,rest⟩
 ·exact .inl h1
 ·exact .inr ⟨g,cap,cur,rfl,hb,(hk g hb (Array.getElem?_eq_some_iff.1 hg).1 (hv g rfl)).trans hg,rest⟩
theorem OwnLL.off {W W':World} {base D:Nat} {v:Value} {ls:List (List Nat)} {b:Bool} (h:OwnLL W base v ls) (hne:∀ c∈ls,∃ u r,c=u::r) (hD:W.cell? ⟨D,0,none⟩=some (.bool b)) (hv:∀ g,v.ownBlock=some g→g≠D)
  (hk:∀ k,base≤k→k<W.heap.size→k≠D→W'.heap[k]? = W.heap[k]?) (hz:W.heap.size≤W'.heap.size):OwnLL W' base v ls:=by
 obtain ⟨vs,h1,h2⟩:=h;refine ⟨vs,own_blocks_off h1 hv hk,fun i c hc=>?_⟩;obtain ⟨g,cap,k1,k2,k3,k4,k5⟩:=h2 i c hc
 have hgD:g≠D:=fun e=>by
  obtain ⟨u,r,rfl⟩:=hne c (List.mem_of_getElem? hc);have:=k5 0 (by simp);rw [e,hD] at this;cases this
 exact ⟨g,cap,k1,k2,by omega,k4,fun k hk'=>(World.cell?_of_block (hk g k2 k3 hgD)).trans (k5 k hk')⟩
theorem clsTo_self {l:List (Nat × Nat)} {j:Nat} (h:¬ Late l j):clsTo l j j=[]:=by
 unfold clsTo;rw [List.filter_eq_nil_iff];intro u hu;have:=List.mem_range.1 hu;simp only [Bool.and_eq_true,decide_eq_true_eq];exact fun z=>h ⟨u,this,z.1,z.2⟩
theorem comps_form {n:Nat} {l:List (Nat × Nat)} {c:List Nat} {j:Nat} (hj:j≤n) (h:c∈compsTo n l j):∃ u r,c=u::r:=by
 obtain ⟨u,hu,hl,rfl⟩:=mem_comps.1 h;obtain ⟨r,hr,-⟩:=class_head (show u<n by omega) hl;exact ⟨u,r,hr⟩
def CompR (n:Nat) (l:List (Nat × Nat)) (w:World):Ending→World→Prop:=fun e W=>∃ v,e=.returned v∧OwnLL W w.heap.size v (compsTo n l n)∧Below w.heap.size w W
theorem gcomps_any (n:Nat) (A:Option Addr) (c:Nat) (l:List (Nat × Nat)) (hn:n≤200) (hl:l.length≤2000) (hr:EdR n l) (hs:Strict l) (w:World) (h:Eds w w.heap.size A l) :
  Calls Tryz.prog 39 #[.int .i64 n,.slice A l.length c] w (CompR n l w):=by
 obtain ⟨i0,hi,hz⟩:=Option.map_eq_some_iff.1 intInfo;have hz0:i0.zero=some (.int .i64 0):=congrArg (fun t=>t.1) hz;have hz1:i0.size=1:=congrArg (fun t=>t.2.1) hz;have hz2:i0.bytes=8:=congrArg (fun t=>t.2.2) hz;clear hz;obtain ⟨i1,hi1,hz⟩:=Option.map_eq_some_iff.1 listInfo;have hy0:i1.zero=some (.slice none 0 0):=congrArg (fun t=>t.1) hz;have hy1:i1.size=1:=congrArg (fun t=>t.2.1) hz;have hy2:i1.bytes=24:=congrArg (fun t=>t.2.2) hz;clear hz;have HCK:=hid (fun (W:World) (hb:Below w.heap.size w W)=>gchk_ok n A c l hn hl hr hs W ((h.below hb).more hb.size));have HRE:=hid (fun (W:World) (hb:Below w.heap.size w W) (v:Nat) (hv:v<n)=>greach_any n A c l hn hl hr v hv W ((h.below hb).more hb.size))
 have hmk:=fun W=>run_make_row' (P:=Tryz.prog) 82 4 (.bool false) 1 Tryz.underlying82 (by kernel_rfl) rfl .i64 .i64 n (by omega) (by omega) W
 have hn0:=zi n;clear h;have hO0:OwnLL (w.alloc (.cells #[] 27)) w.heap.size (.slice (some ⟨w.heap.size,0,none⟩) 0 0) []:=⟨[],World.ownsRow_lit (e:=27) w #[] 0 (Nat.le_refl _) (by decide) rfl,fun i c h=>by simp at h⟩
 have hb0:=below_alloc w (.cells #[] 27);have hzw:w.heap.size+1=(w.alloc (.cells #[] 27)).heap.size:=by simp
 go_enter Tryz.func39,Tryz.ntmps39;go_upto_region 2 with fail;generalize w.alloc _=wa at hO0 hb0 hzw ⊢;go_wp2_with fail;refine (HCK.out _ hb0).mono ?_;rintro e w1 ⟨rfl,hb1⟩;go_upto_region 5 with fail;have hO1:=hO0.below hb1;have hb01:=hb0.trans (hb1.mono hb0.size);have hzB:w.heap.size+1≤w1.heap.size:=by have:=hb1.size; omega
 have hD:=World.rowIs_made w1 (.bool false) n 4;have hba:=below_alloc w1 (.cells (madeCells #[.bool false] n) 4);have hO2:=hO1.below hba;have hbw:=hb01.trans (hba.mono (by omega));have hzD:w1.heap.size<(w1.alloc (.cells (madeCells #[.bool false] n) 4)).heap.size:=by simp
 have hob0:∀ g,(Value.slice (some ⟨w.heap.size,0,none⟩) 0 0).ownBlock=some g→g≠w1.heap.size:=fun g e=>by
  have e:some w.heap.size=some g:=e;injection e with e;omega
 clear hmk hO0 hO1 hb0 hb01 hba hb1 hzw;generalize w1.alloc _=wb at hO2 hbw hzD hD ⊢;generalize (Value.slice (some ⟨w.heap.size,0,none⟩) 0 0)=u0 at hO2 hob0 ⊢;generalize w1.heap.size=D at hD hzD hob0 hzB ⊢;go_upto_region 6 with fail;go_loopw [5,7] (fun out i wr=>∃ (j:Nat) (d:Nat→Bool),i=.int .i64 (j:Nat)∧j≤n∧wr.rowIs D 4 n (fun v=>.bool (d v))∧(∀ v,v<n→(d v=true↔DoneTo l j v))∧OwnLL wr w.heap.size out (compsTo n l j)∧(∀ g,out.ownBlock=some g→g≠D)∧D<wr.heap.size∧Below w.heap.size w wr) (fun _ i _=>n - (intOf i).toNat)
 case atStart=>exact ⟨0,fun _=>false,rfl,by omega,hD.congr (fun _ _=>rfl),fun v _=>⟨fun h=>(by cases h),fun ⟨u,h,_⟩=>absurd h (by omega)⟩,hO2,hob0,hzD,hbw⟩
 case round=>
  clear hO2 hob0 hzD hbw hD;obtain ⟨j,d,rfl,hj,hD,hdd,hLL,hob,hzD,hb⟩:=hrel;have hj0:=zi j;have hwr:=Wi j (by omega);by_cases hlt:j<n
  ·have hd1:=Dt (show (j:Int)<n by omega)
   have hd2:=Dt hlt;have hjl:(j:Int)<(n:Int):=by omega
   have c0:=hD.cell hlt;have hdj:=(hdd j hlt).trans doneTo_late
   cases hdv:d j with
   | true=>
    rw [hdv] at c0;have hlate:=hdj.1 hdv;have hLL2:OwnLL wr w.heap.size u5 (compsTo n l (j+1)):=by rw [(compsTo_succ n l j).1 hlate]; exact hLL
    have hdd2:∀ v,v<n→(d v=true↔DoneTo l (j+1) v):=fun v hv=>(hdd v hv).trans (doneTo_skip hlate).symm
    clear hLL hdd hdj hdv;go_wp2_with fail;go_round
    case rel=>exact ⟨j+1,d,rfl,by omega,hD,hdd2,hLL2,hob,hzD,hb⟩
    case measure=>exact ms (by omega)
   | false=>
    rw [hdv] at c0;have hnl:¬ Late l j:=fun h=>by have:=hdj.2 h; rw [hdv] at this; cases this
    have HLL:=hid hLL;have HB:=hid hb;have HDD:=hid hdd;have HOB:=hid hob;have HD0:=hid hD;clear hLL hb hdd hob hD hdj hdv;go_upto_region 9 with fail;go_wp2_with fail;refine (HRE.out wr HB.out j hlt).mono ?_;rintro e w0 ⟨T,t,rfl,hT,ht,hTl,hb5⟩;have HT:=hid hT;have HTT:=hid ht;have hD:=HD0.out.of_block (hb5.block D hzD);have hDc:=hD.cell (show 0<n by omega);have hLL:=HLL.out.below hb5;have HL5:=hid hLL;have hzw5:=hb5.size;have hB5:=HB.out.trans (hb5.mono HB.out.size);have HB5:=hid hB5;have hcz:D<w0.heap.size:=by omega
    have HDC:=hid hDc;have hTz:=hT.lt;have hown0:(w0.alloc (.cells #[] 3)).ownsRow w0.heap.size 3 1 (.slice (some ⟨w0.heap.size,0,none⟩) 0 0) 0 []:=World.ownsRow_lit (e:=3) w0 #[] 0 (Nat.le_refl _) (by decide) rfl;have hba:=below_alloc w0 (.cells #[] 3);have hTu0:Turn D (D+1) w0 (w0.alloc (.cells #[] 3)):=Turn.of_below hba;have hD1:=hD.of_block (hba.block D hcz);clear hT ht hLL hB5 hb5 hDc hD c0 HD0 HLL HB;go_upto_region 12 with fail;generalize w0.alloc _=wc at hown0 hba hTu0 hD1 ⊢;generalize (Value.slice (some ⟨w0.heap.size,0,none⟩) 0 0)=uc at hown0 ⊢;clear hba
    go_loopw [9,10] (fun cls i wr=>∃ (v:Nat) (d2:Nat→Bool),i=.int .i64 (v:Nat)∧j≤v∧v≤n∧wr.rowIs D 4 n (fun x=>.bool (d2 x))∧(∀ x,x<n→(d2 x=true↔DoneTo l j x∨(x<v∧Way l j x∧Way l x j)))∧wr.ownsRow w0.heap.size 3 1 cls (clsTo l j v).length (natC (clsTo l j v))∧Turn D (D+1) w0 wr) (fun _ i _=>n - (intOf i).toNat)
    case atStart=>exact ⟨j,d,rfl,Nat.le_refl _,hj,hD1,fun x hx=>(HDD.out x hx).trans ⟨.inl,fun h=>h.resolve_right (fun z=>hnl ⟨x,z.1,z.2.1,z.2.2⟩)⟩,by rw [clsTo_self hnl]; exact hown0,hTu0⟩
    case round=>
     clear hD1 hown0 hTu0;obtain ⟨v,d2,rfl,hjv,hv,hD,hd2,hown,hTu⟩:=hrel;have hv0:=zi v;have hwv:=Wi v (by omega);have HD2:=hid hd2;have hBr:=HB5.out.trans ((hTu.below (by omega)).mono (by omega));clear hd2;by_cases hvt:v<n
     ·have hd1':decide ((v:Int)<(n:Int))=true:=decide_eq_true (by omega)
      have hd2':decide (v<n)=true:=decide_eq_true hvt;have hvl:(v:Int)<(n:Int):=by omega
      have e1:=(HT.out.of_block (hTu.block T hTz (by omega))).cell hvt;by_cases hw1:Way l j v
      ·rw [(HTT.out v hvt).2 hw1] at e1
       have HBr:=hid hBr;have HOW:=hid hown;have HTu:=hid hTu;have HD:=hid hD;clear hBr hown hTu hD;go_wp2_with fail;refine (HRE.out wr HBr.out v hvt).mono ?_;rintro e w7 ⟨T2,t2,rfl,hT2,ht2,hTl2,hb7⟩;have e2:=hT2.cell hlt;have hown:=own_blocks HOW.out (fun k _ hk=>hb7.block k hk);have hTu:=HTu.out.below2 hb7 HTu.out.size;have hD:=HD.out.of_block (hb7.block D (by have:=HTu.out.size; omega));have hBr:=HBr.out.trans (hb7.mono HBr.out.size);clear HOW HTu HD HBr;by_cases hw2:Way l v j
       ·rw [(ht2 j hlt).2 hw2] at e2
        have HCL:=hid (clsTo_yes ⟨hw1,hw2⟩);have hcl:=clsTo_len l j v
        have HD3:Hid (∀ x,x<n→((if x=v then true else d2 x)=true↔DoneTo l j x∨(x<v+1∧Way l j x∧Way l x j))):=hid (fun x hx=>by
         by_cases q:x=v
         ·subst q; simp [hw1,hw2]
         ·rw [if_neg q]
          exact (HD2.out x hx).trans ⟨fun h=>h.imp id (fun z=>⟨by omega,z.2⟩),fun h=>h.imp id (fun z=>⟨by omega,z.2⟩)⟩)
        have hvD:∀ g,u9.ownBlock=some g→g≠D:=fun g e=>by have:=(hown.lt g e).1; omega
        have hvB:∀ g,u9.ownBlock=some g→w0.heap.size≤g:=fun g e=>(hown.lt g e).1
        have hzz:=hTu.size;have HVD:=hid hvD;have HVB:=hid hvB;have HBr:=hid hBr;clear hw1 hw2 HD2 ht2 hb7 hT2 hTl2 hvD hvB hBr;go_upto_region 15 with fail;clear e2;go_upto_region 13 with (at_builtin; refine wpList_append_own _ rfl (.tmp 54) (.tmp 56) _ rfl w0.heap.size 3 i0 (.int .i64 0) 1 8 Tryz.underlying27 hi hz0 hz1 hz2 rfl (by omega) _ _ _ rfl (World.ownsRow.alloc hown _) ⟨w7.heap.size,0,none⟩ 1 1 [.int .i64 v] rfl rfl (cell_one_new _ _ _) (by simp [Value.oneCell']) (by unfold maxLen; omega) (by omega) (by simp; omega) ?_; intro v2 w3 hown2 hg2 _; have hD4:=(hD.alloc (.cells #[.int .i64 (v:Int)] 3)).of_block (hg2.block D (by simp; omega) (fun e=>HVD.out _ e.symm rfl)); have c4:=hD4.cell hvt; have f4:=hD4.frozen v)
        have hTu4:Turn D (D+1) w0 w3:=⟨hg2.os.trans hTu.os,hg2.tape.trans hTu.tape,hg2.output.trans hTu.output,by have:=hg2.size; simp at this; omega,fun k hk hr=>(hg2.block k (by simp; omega) (fun e=>by have:=HVB.out k e.symm; omega)).trans (((below_alloc w7 _).block k (by omega)).trans (hTu.block k hk hr))⟩
        have hD5:=hD4.set v (.bool true);have hTu5:=hTu4.setCell (a:=⟨D,v,none⟩) ⟨Nat.le_refl _,by show D<D+1; omega⟩ (.bool true);have hown5:=own_set_far hown2 (b:=D) (fun g e=>by have:=(hown2.lt g e).1; omega) v (.bool true);clear hown hD hTu hg2 hown2 hD4 hTu4 e1;go_wp2_with fail;go_round
        case rel=>exact ⟨v+1,fun x=>if x=v then true else d2 x,rfl,by omega,by omega,hD5.congr (fun x _=>by by_cases e:x=v <;> simp [e]),HD3.out,by rw [HCL.out,List.length_append,natC_push]; exact hown5,hTu5⟩
        case measure=>exact ms (by omega)
       ·have e3:t2 j=false:=Bool.eq_false_iff.2 (fun z=>hw2 ((ht2 j hlt).1 z))
        rw [e3] at e2;have HCL:=hid (clsTo_no (fun z=>hw2 z.2):clsTo l j (v+1)=clsTo l j v)
        have HD3:∀ x,x<n→(d2 x=true↔DoneTo l j x∨(x<v+1∧Way l j x∧Way l x j)):=fun x hx=>(HD2.out x hx).trans ⟨fun h=>h.imp id (fun z=>⟨by omega,z.2⟩),fun h=>h.imp id (fun z=>⟨by
         have:x≠v:=fun q=>by subst q; exact hw2 z.2.2
         omega,z.2⟩)⟩
        clear hw1 hw2 HD2 ht2 hb7 hT2 hTl2;go_wp2_with fail;go_round
        case rel=>exact ⟨v+1,d2,rfl,by omega,by omega,hD,HD3,by rw [HCL.out]; exact hown,hTu⟩
        case measure=>exact ms (by omega)
      ·have e3:t v=false:=Bool.eq_false_iff.2 (fun z=>hw1 ((HTT.out v hvt).1 z))
       rw [e3] at e1;have HCL:=hid (clsTo_no (fun z=>hw1 z.1):clsTo l j (v+1)=clsTo l j v)
       have HD3:∀ x,x<n→(d2 x=true↔DoneTo l j x∨(x<v+1∧Way l j x∧Way l x j)):=fun x hx=>(HD2.out x hx).trans ⟨fun h=>h.imp id (fun z=>⟨by omega,z.2⟩),fun h=>h.imp id (fun z=>⟨by
        have:x≠v:=fun q=>by subst q; exact hw1 z.2.1
        omega,z.2⟩)⟩
       clear hw1 HD2;go_wp2_with fail;go_round
       case rel=>exact ⟨v+1,d2,rfl,by omega,by omega,hD,HD3,by rw [HCL.out]; exact hown,hTu⟩
       case measure=>exact ms (by omega)
     ·have hd1':decide ((v:Int)<(n:Int))=false:=decide_eq_false (by omega)
      have hd2':decide (v<n)=false:=decide_eq_false hvt;have hnv:n=v:=by omega
      subst hnv;obtain ⟨r,hrr,-⟩:=class_head hlt hnl;have hne:(clsTo l j n).length≠0:=by rw [← clsTo_all,hrr]; simp
      have hcl:=clsTo_len l j n;have hcc:=fun g (hg:u9.ownBlock=some g)=>hown.cells hg
      obtain ⟨g,cap,rfl,hgb,hgl⟩:∃ g cap,u9=.slice (some ⟨g,0,none⟩) (clsTo l j n).length cap∧w0.heap.size≤g∧g<wr.heap.size:=by
       rcases hown.2 with ⟨-,z⟩ | ⟨g,cap,cur,e,hb',hg',-⟩
       ·exact absurd z hne
       ·exact ⟨g,cap,e,hb',(Array.getElem?_eq_some_iff.1 hg').1⟩
      have hck:∀ k (hk:k<(clsTo l j n).length),wr.cell? ⟨g,k,none⟩=some (.int .i64 (clsTo l j n)[k]):=fun k hk=>by
       have:=hcc g rfl k (.int .i64 (clsTo l j n)[k]) (by simp [natC,hk])
       rwa [Addr.add_lit,Nat.zero_add] at this
      have hLw:=HL5.out.off (fun c hc=>comps_form hj hc) HDC.out HOB.out (fun k _ hk hkD=>hTu.block k hk (by omega)) hTu.size;have hba:=below_alloc wr (.cells #[.slice (some ⟨g,0,none⟩) (clsTo l j n).length cap] 27);obtain ⟨vs,h1,h2⟩:=hLw.below hba
      have hug:u5.ownBlock≠some g:=fun e=>by
       obtain ⟨vs',h1',-⟩:=HL5.out;have:=(h1'.lt g e).2; omega
      have HUL:Hid (∀ q,u5.ownBlock=some q→w.heap.size≤q):=hid (fun q e=>(h1.lt q e).1);have hcn:=comps_len n l j;have hzz:=hTu.size;have HDD5:Hid (∀ x,x<n→(d2 x=true↔DoneTo l (j+1) x)):=hid (fun x hx=>(HD2.out x hx).trans ⟨fun h=>doneTo_succ.2 (h.imp id (fun z=>z.2)),fun h=>(doneTo_succ.1 h).imp id (fun z=>⟨hx,z⟩)⟩);have HBR:=hid hBr;clear hown hcc hLw hrr HL5 HD2 hTu hBr;go_upto_region 7 with (at_builtin; refine wpList_append_own_at _ rfl (.tmp 59) (.tmp 61) _ rfl w.heap.size 27 i1 (.slice none 0 0) 1 24 Tryz.underlying35 hi1 hy0 hy1 hy2 rfl (by omega) _ _ _ rfl h1 ⟨wr.heap.size,0,none⟩ 1 1 [.slice (some ⟨g,0,none⟩) (clsTo l j n).length cap] rfl rfl (cell_one_new _ _ _) (by simp [Value.oneCell']) (by unfold maxLen; omega) (by omega) (by simp; omega) ?_; intro v3 w3 hown3 hg3 _ hob3)
      have hLL6:=OwnLL.push h1 h2 hown3 hg3 hob3 (by omega) (by simp; omega) hug (fun k hk=>(hba.cell (by show g<_; omega)).trans (hck k hk));rw [← clsTo_all,← (compsTo_succ n l j).2 hnl] at hLL6;have hD6:=hD.of_block ((hg3.block D (by simp; omega) (fun e=>HOB.out _ e.symm rfl)).trans (hba.block D (by omega)))
      have hob6:∀ q,v3.ownBlock=some q→q≠D:=fun q e=>by
       rcases hob3 with z | z
       ·rw [z] at e; exact HOB.out q e
       ·rw [z] at e; injection e with e; simp at e; omega
      have hb6:Below w.heap.size w w3:=(HBR.out.trans (hba.mono (by omega))).grown hg3 (by simp; omega) (fun q e=>HUL.out q e);have hz6:D<w3.heap.size:=by have:=hg3.size; simp at this; omega
      clear h1 h2 hown3 hg3 hob3 hba hD hck;go_wp2_with fail;go_round
      case rel=>exact ⟨j+1,d2,rfl,by omega,hD6,HDD5.out,hLL6,hob6,hz6,hb6⟩
      case measure=>exact ms (by omega)
  ·have hd1:=Df (show ¬ (j:Int)<n by omega)
   have hd2:=Df hlt;have hjn:n=j:=by omega
   subst hjn;go_wp2_with fail;go_ret;exact ⟨_,rfl,hLL,hb⟩
end
section
open Go.RowKit Go.Shelf
def SusR (p:Prg) (w:World):Ending→World→Prop:=fun e W=>∃ (ls:List (List Nat)) (A:Option Addr) (c:Nat) (er:Int),e=.returned (.tuple #[.slice A ls.length c,.int .i64 er])∧NLs W W.heap.size A ls∧Below w.heap.size w W ∧
 (prgOk p→er=0∧ls=suspects p.obs.length (graphOf p))∧(¬ prgOk p→er=1∧ls=[])
theorem rsuspects_any (p:Prg) (w:World) (h:Lies w w.heap.size p):Calls Tryz.prog 12 #[p.val] w (SusR p w):=by
 obtain ⟨i1,hi1,hz⟩:=Option.map_eq_some_iff.1 listInfo;have hy0:i1.zero=some (.slice none 0 0):=congrArg (fun t=>t.1) hz;have hy1:i1.size=1:=congrArg (fun t=>t.2.1) hz;have hy2:i1.bytes=24:=congrArg (fun t=>t.2.2) hz;clear hz;have HGR:=hid (fun (W:World) (hb:Below w.heap.size w W)=>rgraph_any p W (h.next hb));have HCO:=hid (fun (hv:prgOk p) (A:Option Addr) (c:Nat) (W:World) (hE:Eds W W.heap.size A (graphOf p))=>gcomps_any p.obs.length A c (graphOf p) (by have:=(wf_of hv).obs; omega) (by have:=graph_len (wf_of hv).obs; omega) (graph_range (wf_of hv)) (graph_strict p) W hE);have HCT:=hid (fun (hv:prgOk p) (A:Option Addr) (c:Nat) (u v:Nat) (W:World) (hE:Eds W W.heap.size A (graphOf p))=>ghas_any A c (graphOf p) (by have:=graph_len (wf_of hv).obs; omega) u v W hE)
 have HCL:=hid (fun (hv:prgOk p)=>And.intro (wf_of hv).obs (comps_len p.obs.length (graphOf p) p.obs.length));have HFO:=hid (fun c (hc:c∈compsTo p.obs.length (graphOf p) p.obs.length)=>comp_form hc);unfold SusR suspects;unfold Prg.val at HGR ⊢;generalize hcs:compsTo p.obs.length (graphOf p) p.obs.length=cs at HCL HFO ⊢;unfold CompR at HCO;rw [hcs] at HCO;clear hcs;unfold GraphR at HGR;generalize graphOf p=gr at HGR HCO HCT ⊢;clear h;go_enter Tryz.func12,Tryz.ntmps12;go_upto_region 1 with fail;have hT1:=one_new w #[.slice p.funA p.funs.length p.funC,.slice p.obA p.obs.length p.obC,.slice p.vrA p.vrs.length p.vrC] 26;generalize w.alloc _=w1 at hT1 ⊢;obtain ⟨x0,x1,x2⟩:=bx3 hT1.fst;have HG1:=hid (HGR.out w1 hT1.below);go_wp2_with fail;refine HG1.out.mono ?_;rintro e w2 ⟨l,Ag,Cg,er,rfl,hE2,hb2,hok,hno⟩;have hT2:=hT1.next hb2
 clear x0 x1 x2 HG1 hT1 hb2 HGR;obtain ⟨x0,x1,x2⟩:=bx3 hT2.fst;by_cases hv:prgOk p;rotate_left
 ·obtain ⟨rfl,rfl⟩:=hno hv
  have HV:=hid hv;clear hok hno hv;go_wp2_with fail;have hba:=below_alloc w2 (.cells #[] 27);have hT3:=hT2.next hba;go_ret2;exact ⟨[],some ⟨w2.heap.size,0,none⟩,0,1,rfl,nls_nil _ _ _,hT3.below,fun z=>absurd z HV.out,fun _=>⟨rfl,rfl⟩⟩
 obtain ⟨rfl,rfl⟩:er=0∧gr=l:=⟨(hok hv).1,(hok hv).2.symm⟩
 have HV:=hid hv;obtain ⟨hob,hcl⟩:=HCL.out hv;have HCT2:=hid (HCT.out hv);have HCO2:=hid (HCO.out hv);clear hok hno HCO HCT HCL hv;go_upto_region 5 with fail;have hba:=below_alloc w2 (.cells #[] 27);have hO0:OwnLL (w2.alloc (.cells #[] 27)) w.heap.size (.slice (some ⟨w2.heap.size,0,none⟩) 0 0) []:=⟨[],World.ownsRow_lit (e:=27) w2 #[] 0 hT2.below.size (by decide) rfl,fun i c h=>by simp at h⟩
 have hTa:=hT2.next hba;have hzA:(w2.alloc (.cells #[] 27)).heap.size=w2.heap.size+1:=by simp
 have hEa:=hE2.below hba;have hw2:=hT2.below.size;clear x0 x1 x2 hT2 hE2 hba;generalize w2.alloc _=wa at hO0 hTa hzA hEa ⊢;generalize w2.heap.size=B0 at hO0 hzA hEa hw2 ⊢;obtain ⟨x0,x1,x2⟩:=bx3 hTa.fst;have HC1:=hid (HCO2.out Ag Cg wa (Rd.more hEa (by omega)));clear HCO2;go_wp2_with fail;refine HC1.out.mono ?_;rintro e w3 ⟨cv,rfl,hLL,hb3⟩;have hb:=hTa.below.trans (hb3.mono hTa.below.size);have hE3:Eds w3 B0 Ag gr:=hEa.below' hb3 (by omega);have hz3:=hb3.size;have hO1:=hO0.below hb3;rw [hzA] at hLL;clear x0 x1 x2 hTa hEa HC1 hO0;obtain ⟨vs,hcv,hvs⟩:=hLL;obtain ⟨Ac,Cc,rfl⟩:=own_form hcv;have hrd:=Rd.of_own hcv;have hcvl:=fun q e=>(hcv.lt q e).1
 have hvl:vs.length=cs.length:=by have:=hcv.1; omega
 clear hcv hb3
 have hob0:∀ q,(Value.slice (some ⟨B0,0,none⟩) 0 0).ownBlock=some q→q=B0∨w3.heap.size≤q:=fun q e=>by
  have e:some B0=some q:=e;injection e with e;exact .inl e.symm
 generalize (Value.slice (some ⟨B0,0,none⟩) 0 0)=u00 at hO1 hob0 ⊢;go_upto_region 7 with fail;go_loopw [6,8] (fun out i wr=>∃ k:Nat,i=.int .i64 (k:Nat)∧k≤cs.length∧OwnLL wr w.heap.size out ((cs.take k).filter (susp gr))∧(∀ q,out.ownBlock=some q→q=B0∨w3.heap.size≤q)∧Turn B0 (B0+1) w3 wr) (fun _ i _=>cs.length - (intOf i).toNat)
 case atStart=>exact ⟨0,rfl,by omega,hO1,hob0,Turn.refl _ _ _⟩
 case round=>
  clear hO1 hob0;obtain ⟨k,rfl,hk,hO,hob6,hTu⟩:=hrel;have hk0:=zi k;have hwr:=Wi k (by omega);by_cases hlt:k<cs.length
  ·have hd1:=Dt (show (k:Int)<cs.length by omega)
   have hd2:=Dt hlt;have hjl:(k:Int)<(cs.length:Int):=by omega
   obtain ⟨cb,co,rfl,hcb,hcc⟩:=Rd.addr hrd (by omega);have hcb1:B0+1≤cb:=hcvl cb rfl;have hck:cs[k]? = some cs[k]:=List.getElem?_eq_getElem hlt;obtain ⟨g,cap,hvk,hgb,hgz,-,hgc⟩:=hvs k _ hck;have c0:=hTu.cell (a:=⟨cb,co+k,none⟩) (hcc k _ hvk) (.inr hcb1);have hge:=hTu.size;obtain ⟨u,r,hur,hun⟩:=HFO.out _ (List.getElem_mem hlt)
   have HTK:=hid (show (cs.take (k+1)).filter (susp gr)=if susp gr cs[k]=true then (cs.take k).filter (susp gr)++[cs[k]] else (cs.take k).filter (susp gr) by
    rw [List.take_add_one,hck];simp only [Option.toList_some,List.filter_append,List.filter_cons,List.filter_nil];split <;> simp)
   have hgc2:∀ q (hq:q<(cs[k]).length),wr.cell? ⟨g,q,none⟩=some (.int .i64 (cs[k])[q]):=fun q hq=>hTu.cell (a:=⟨g,q,none⟩) (hgc q hq) (.inr hgb)
   have HLL:=hid hO;have hfl:((cs.take k).filter (susp gr)).length≤16:=Nat.le_trans (List.length_filter_le _ _) (by rw [List.length_take]; omega);clear hO hck hvk hgc;generalize cs[k]=cl at c0 hur HTK hgc2;subst hur;have g0:=hgc2 0 (by simp);obtain ⟨m,hm⟩:∃ m,m=(u::r).length:=⟨_,rfl⟩
   rw [← hm] at c0;have HM:=hid hm;have hm0:(0:Int)<(m:Int):=by rw [hm]; simp
   have hm00:0<m:=by omega
   by_cases hr0:r=[]
   ·subst hr0
    have hm1:m=1:=hm;have hd3:=Df (show ¬ (1:Int)<m by omega);have hd4:=Df (show ¬ (1<m) by omega);have hTd:Turn B0 (B0+1) w3 wr.drew:=hTu.drewN 1;have HC:=hid (HCT2.out Ag Cg u u wr.drew (Rd.more (hE3.below (hTd.below (by omega))) (by have:=hTd.size; omega)));simp only [List.getElem_cons_zero] at g0;clear hm hm1;go_wp2_with fail;go_still_tail 20,(by kernel_rfl)
    change wpList _ _ _ _ _ wr.drew;have hO2:=HLL.out.below (below_drews wr.heap.size wr 1);change OwnLL wr.drew _ _ _ at hO2;have hgc3:∀ q (hq:q<[u].length),wr.drew.cell? ⟨g,q,none⟩=some (.int .i64 [u][q]):=hgc2;have c3:wr.drew.cell? ⟨cb,co+k,none⟩=some (.slice (some ⟨g,0,none⟩) m cap):=c0;have g3:wr.drew.cell? ⟨g,0,none⟩=some (.int .i64 u):=g0;clear c0 g0 hgc2 HLL hTu hge;generalize wr.drew=wd at HC hTd hO2 hgc3 c3 g3 ⊢;go_wp2_with fail;refine HC.out.mono ?_;rintro e w4 ⟨rfl,hb4⟩;have HO4:=hO2.below hb4;have hTu4:=hTd.trans (Turn.of_below hb4);have c4:=(hb4.cell (p:=⟨cb,co+k,none⟩) (by have:=hTd.size; show cb<_; omega)).trans c3
    have hgc4:∀ q (hq:q<[u].length),w4.cell? ⟨g,q,none⟩=some (.int .i64 [u][q]):=fun q hq=>(hb4.cell (p:=⟨g,q,none⟩) (by have:=hTd.size; show g<_; omega)).trans (hgc3 q hq)
    clear hO2 hgc3 hb4 HC hTd c3 g3;by_cases hin:(u,u)∈gr
    ·rw [decide_eq_true hin]
     have HSU:Hid (susp gr [u]=true):=hid (by simp [susp,hin]);clear hin;go_upto_region 10 with fail;have hba:=below_alloc w4 (.cells #[.slice (some ⟨g,0,none⟩) m cap] 27);obtain ⟨vs2,h1,h2⟩:=HO4.below hba;have hug:u6.ownBlock≠some g:=fun e=>by have:=hob6 g e; omega
     have hge4:=hTu4.size;go_upto_region 8 with (at_builtin; refine wpList_append_own_at _ rfl (.tmp 52) (.tmp 57) _ rfl w.heap.size 27 i1 (.slice none 0 0) 1 24 Tryz.underlying35 hi1 hy0 hy1 hy2 rfl (by omega) _ _ _ rfl h1 ⟨w4.heap.size,0,none⟩ 1 1 [.slice (some ⟨g,0,none⟩) m cap] rfl rfl (cell_one_new _ _ _) (by simp [Value.oneCell']) (by unfold maxLen; omega) (by omega) (by simp; omega) ?_; intro v6 w6 hown6 hg6 _ hob7)
     rw [HM.out] at hown6;have hO7:=OwnLL.push h1 h2 hown6 hg6 hob7 (by omega) (by simp; omega) hug (fun q hq=>(hba.cell (p:=⟨g,q,none⟩) (by show g<_; omega)).trans (hgc4 q hq));have hO8:OwnLL w6 w.heap.size v6 ((cs.take (k+1)).filter (susp gr)):=by rw [HTK.out,if_pos HSU.out]; exact hO7
     have hob8:∀ q,v6.ownBlock=some q→q=B0∨w3.heap.size≤q:=fun q e=>by
      rcases hob7 with z | z
      ·exact hob6 q (z ▸ e)
      ·rw [z] at e; injection e with e; simp at e; omega
     have hTu8:Turn B0 (B0+1) w3 w6:=⟨hg6.os.trans hTu4.os,hg6.tape.trans hTu4.tape,hg6.output.trans hTu4.output,by have:=hg6.size; simp at this; omega,fun q hq hr=>(hg6.block q (by simp; omega) (fun e=>by have:=hob6 q e.symm; omega)).trans ((hba.block q (by omega)).trans (hTu4.block q hq hr))⟩
     clear HO4 h1 h2 hown6 hg6 hob7 hba hO7 hTu4 hgc4 c4;go_wp2_with fail;go_round
     case rel=>exact ⟨k+1,rfl,by omega,hO8,hob8,hTu8⟩
     case measure=>exact ms (by omega)
    ·rw [decide_eq_false hin]
     have HSU:Hid (susp gr [u]=false):=hid (by simp [susp,hin]);clear hin;have hO8:OwnLL w4 w.heap.size u6 ((cs.take (k+1)).filter (susp gr)):=by rw [HTK.out,if_neg (by rw [HSU.out]; decide)]; exact HO4
     clear HO4 hgc4 c4;go_wp2_with fail;go_round
     case rel=>exact ⟨k+1,rfl,by omega,hO8,hob6,hTu4⟩
     case measure=>exact ms (by omega)
   ·have hm1:1<m:=by
     have:=List.length_pos_iff.2 hr0;rw [hm,List.length_cons]; omega
    have hd3:=Dt (show (1:Int)<m by omega);have hd4:=Dt hm1;have HSU:Hid (susp gr (u::r)=true):=hid (by simp [susp,List.length_pos_iff.2 hr0]);clear hm hr0;go_wp2_with fail;go_quiet (fail);go_upto_region 10 with fail;have hTu4:Turn B0 (B0+1) w3 (wr.drewN nq):=hTu.drewN nq;have HO4:=HLL.out.below (below_drews wr.heap.size wr nq);have hgc4:∀ q (hq:q<(u::r).length),(wr.drewN nq).cell? ⟨g,q,none⟩=some (.int .i64 (u::r)[q]):=hgc2;have c4:(wr.drewN nq).cell? ⟨cb,co+k,none⟩=some (.slice (some ⟨g,0,none⟩) m cap):=c0;clear c0 g0 hgc2 HLL hTu hge;generalize wr.drewN nq=w4 at hTu4 HO4 hgc4 c4 ⊢;have hba:=below_alloc w4 (.cells #[.slice (some ⟨g,0,none⟩) m cap] 27);obtain ⟨vs2,h1,h2⟩:=HO4.below hba;have hug:u6.ownBlock≠some g:=fun e=>by have:=hob6 g e; omega
    have hge4:=hTu4.size;go_upto_region 8 with (at_builtin; refine wpList_append_own_at _ rfl (.tmp 52) (.tmp 57) _ rfl w.heap.size 27 i1 (.slice none 0 0) 1 24 Tryz.underlying35 hi1 hy0 hy1 hy2 rfl (by omega) _ _ _ rfl h1 ⟨w4.heap.size,0,none⟩ 1 1 [.slice (some ⟨g,0,none⟩) m cap] rfl rfl (cell_one_new _ _ _) (by simp [Value.oneCell']) (by unfold maxLen; omega) (by omega) (by simp; omega) ?_; intro v6 w6 hown6 hg6 _ hob7)
    rw [HM.out] at hown6;have hO7:=OwnLL.push h1 h2 hown6 hg6 hob7 (by omega) (by simp; omega) hug (fun q hq=>(hba.cell (p:=⟨g,q,none⟩) (by show g<_; omega)).trans (hgc4 q hq));have hO8:OwnLL w6 w.heap.size v6 ((cs.take (k+1)).filter (susp gr)):=by rw [HTK.out,if_pos HSU.out]; exact hO7
    have hob8:∀ q,v6.ownBlock=some q→q=B0∨w3.heap.size≤q:=fun q e=>by
     rcases hob7 with z | z
     ·exact hob6 q (z ▸ e)
     ·rw [z] at e; injection e with e; simp at e; omega
    have hTu8:Turn B0 (B0+1) w3 w6:=⟨hg6.os.trans hTu4.os,hg6.tape.trans hTu4.tape,hg6.output.trans hTu4.output,by have:=hg6.size; simp at this; omega,fun q hq hr=>(hg6.block q (by simp; omega) (fun e=>by have:=hob6 q e.symm; omega)).trans ((hba.block q (by omega)).trans (hTu4.block q hq hr))⟩
    clear HO4 h1 h2 hown6 hg6 hob7 hba hO7 hTu4 hgc4 c4;go_wp2_with fail;go_round
    case rel=>exact ⟨k+1,rfl,by omega,hO8,hob8,hTu8⟩
    case measure=>exact ms (by omega)
  ·have hd1:=Df (show ¬ (k:Int)<cs.length by omega)
   have hd2:=Df hlt;rw [List.take_of_length_le (by omega)] at hO;have HO:=hid hO;have HTU:=hid hTu;clear hO hTu;go_wp2_with fail;go_ret2
   obtain ⟨A9,c9,rfl,hN9⟩:=(show OwnLN wr w.heap.size u6 (cs.filter (susp gr)) from by
    obtain ⟨vs,h1,h2⟩:=HO.out
    exact ⟨vs,h1,fun i c hc=>by
     obtain ⟨g,cap,k1,k2,k3,k4,k5⟩:=h2 i c hc;exact ⟨_,k1,.inr ⟨g,cap,rfl,k2,k3,k4,k5⟩⟩⟩).nls
   exact ⟨_,A9,c9,0,rfl,hN9,hb.trans ((HTU.out.below (by omega)).mono (by omega)),fun _=>⟨rfl,rfl⟩,fun z=>absurd HV.out z⟩
end
end Go.Proofs.YtkpjdanfpolimaaGreat
