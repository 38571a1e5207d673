/- LockorderGraph, walked: it returns true. Conditions: the program lies in memory, its numbe · The law of certificates, walked: it answers true. Conditions: the program and the certific -/
import Derived.Test.YtkpjdanfpolimaaGreatLcEc
import Derived.Test.YtkpjdanfpolimaaGreatLcDgA
import Derived.Test.YtkpjdanfpolimaaGreatLcDg0
import Derived.Test.YtkpjdanfpolimaaGreatLcDgX
import Derived.Test.YtkpjdanfpolimaaGreatLcEh
set_option maxRecDepth 100000
set_option maxHeartbeats 6400000
namespace Go.Proofs.YtkpjdanfpolimaaGreat
section
open Go.RowKit Go.Shelf
theorem Eds.at' {W W':World} {A:Option Addr} {l:List (Nat × Nat)} (h:Eds W W.heap.size A l) (hb:Below W.heap.size W W'):Eds W' W'.heap.size A l:=Rd.more (Rd.below h hb) hb.size
theorem NLs.at' {W W':World} {A:Option Addr} {ls:List (List Nat)} (h:NLs W W.heap.size A ls) (hb:Below W.heap.size W W'):NLs W' W'.heap.size A ls:=(h.below' hb (Nat.le_refl _)).more hb.size
end
section
open Go.RowKit Go.Shelf Go.Sort
theorem lsuspects_no (p:Prg) (hfit:Fits p) (hv:¬ prgOk p) (w:World) (h:Lies w w.heap.size p):Calls Tryz.prog 11 #[p.val] w (SusR p w):=by
 have HGR:=hid (fun (W:World) (hb:Below w.heap.size w W)=>lograph_any p hfit W (h.next hb));have HV:=hid hv;unfold Prg.val at HGR ⊢;unfold SusR;clear h hv;go_enter Tryz.func11,Tryz.ntmps11;go_upto_region 1 with fail;have hT1:=one_new w #[.slice p.funA p.funs.length p.funC,.slice p.obA p.obs.length p.obC,.slice p.vrA p.vrs.length p.vrC] 26;generalize w.alloc _=w1 at hT1 ⊢;obtain ⟨x0,x1,x2⟩:=bx3 hT1.fst;have HG1:=hid (HGR.out w1 hT1.below);go_wp2_with fail;refine HG1.out.mono ?_;rintro e w2 ⟨l,Ag,Cg,er,rfl,-,hb2,-,hno⟩;have hT2:=hT1.next hb2;obtain ⟨rfl,rfl⟩:=hno HV.out;clear x0 x1 x2 HG1 hT1 hb2 HGR hno;go_wp2_with fail;go_ret2;exact ⟨[],none,0,1,rfl,nls_nil _ _ _,hT2.below,fun z=>absurd z HV.out,fun _=>⟨rfl,rfl⟩⟩
theorem lsuspects_any (p:Prg) (hfit:Fits p) (w:World) (h:Lies w w.heap.size p):Calls Tryz.prog 11 #[p.val] w (SusR p w):=by
 by_cases hv:prgOk p
 ·refine (suspects_any p hfit hv w h).mono ?_
  rintro e W ⟨v,rfl,hLL,hb⟩;obtain ⟨A,c,rfl,hN⟩:=hLL.nls;exact ⟨_,A,c,0,rfl,hN,hb,fun _=>⟨rfl,rfl⟩,fun z=>absurd hv z⟩
 ·exact lsuspects_no p hfit hv w h
open Classical in
noncomputable def verX (p:Prg) (k:Int) (cs:List Int):Int:=if prgOk p then verE p k cs else 1
theorem VerR.ret {p:Prg} {k:Int} {cs:List Int} {w W:World} {e:Ending} (h:VerR p k cs w e W):Ret (.int .i64 (verX p k cs)) w e W:=by
 obtain ⟨er,rfl,hb,h1,h2⟩:=h;unfold verX;by_cases hv:prgOk p
 ·rw [if_pos hv,← h1 hv]; exact ⟨rfl,hb⟩
 ·rw [if_neg hv,← h2 hv]; exact ⟨rfl,hb⟩
theorem sus_len {p:Prg} (hW:Wf p):(suspects p.obs.length (graphOf p)).length≤2000∧∀ c∈suspects p.obs.length (graphOf p),c.length≤2000:=by
 have hob:=hW.obs;refine ⟨?_,fun c hc=>?_⟩
 ·unfold suspects
  exact Nat.le_trans (List.length_filter_le _ _) (Nat.le_trans (comps_len _ _ _) (by omega))
 ·unfold suspects at hc
  obtain ⟨u,-,-,rfl⟩:=mem_comps.1 (List.mem_filter.1 hc).1;rw [clsTo_all];exact Nat.le_trans (clsTo_len _ _ _) (by omega)
theorem sus_same {p:Prg} {l l':List (List Nat)} {er er':Int} (h:(prgOk p→er=0∧l=suspects p.obs.length (graphOf p))∧(¬ prgOk p→er=1∧l=[])) (h':(prgOk p→er'=0∧l'=suspects p.obs.length (graphOf p))∧(¬ prgOk p→er'=1∧l'=[])) :
  l'=l∧er'=er∧l.length≤2000∧∀ c∈l,c.length≤2000:=by
 by_cases hv:prgOk p
 ·obtain ⟨rfl,rfl⟩:=h.1 hv
  obtain ⟨rfl,rfl⟩:=h'.1 hv;exact ⟨rfl,rfl,sus_len (wf_of hv)⟩
 ·obtain ⟨rfl,rfl⟩:=h.2 hv
  obtain ⟨rfl,rfl⟩:=h'.2 hv;exact ⟨rfl,rfl,by simp,by simp⟩
theorem Nts.at' {W W':World} {A:Option Addr} {l:List Nat} (h:Nts W W.heap.size A l) (hb:Below W.heap.size W W'):Nts W' W'.heap.size A l:=Rd.more (Rd.below h hb) hb.size
theorem certLaw_any (p:Prg) (hfit:Fits p) (k:Int) (A:Option Addr) (c:Nat) (cs:List Int) (w:World) (h:Lies w w.heap.size p) (hcs:Rd w w.heap.size 1 A cs.length (i64s cs)) :
  Calls Tryz.prog 3 #[p.val,.agg #[.int .i64 k,.slice A cs.length c]] w (Ret (.bool true) w):=by
 have HGT:=hid (fun (W:World) (hb:Below w.heap.size w W)=>great_any p W (h.next hb));have HAW:=hid (fun (W:World)=>awake_any W);have HC1:=hid (fun (W:World) (hb:Below w.heap.size w W)=>lcertify_any p hfit W (h.next hb));have HC2:=hid (fun (W:World) (hb:Below w.heap.size w W)=>rcertify_any p W (h.next hb));have HS1:=hid (fun (W:World) (hb:Below w.heap.size w W)=>lsuspects_any p hfit W (h.next hb));have HS2:=hid (fun (W:World) (hb:Below w.heap.size w W)=>rsuspects_any p W (h.next hb));have HV1:=hid (fun (W:World) (hb:Below w.heap.size w W)=>(lverify_any p hfit k A c cs W (h.next hb) (Rd.more (Rd.below hcs hb) hb.size)).mono fun _ _ h=>h.ret)
 have HV2:=hid (fun (hc:cs.length≤20) (W:World) (hb:Below w.heap.size w W)=>(rverify_any p k A c cs (by omega) W (h.next hb) (Rd.more (Rd.below hcs hb) hb.size)).mono fun _ _ h=>h.ret);unfold Prg.val at HGT HC1 HC2 HS1 HS2 HV1 HV2 ⊢;generalize verX p k cs=vx at HV1 HV2;clear h hfit hcs;have hT:=two_new w #[.slice p.funA p.funs.length p.funC,.slice p.obA p.obs.length p.obC,.slice p.vrA p.vrs.length p.vrC] #[.int .i64 k,.slice A cs.length c] 26 29;go_enter Tryz.func3,Tryz.ntmps3;go_upto_region 1 with fail;generalize World.alloc (World.alloc _ _) _=w1 at hT ⊢;obtain ⟨x0,x1,x2⟩:=bx3 hT.fst;obtain ⟨y0,y1⟩:=bx2 hT.snd;go_wp2_with fail;refine (HGT.out w1 hT.below).mono ?_;rintro e w2 ⟨b,rfl,hb2⟩;have hT2:=hT.next hb2;clear hT x0 x1 x2 y0 y1 hb2 HGT
 cases b with
 | true=>
  go_wp2_with fail;refine (HAW.out w2).mono ?_;rintro e w3 ⟨rfl,hb3⟩;have hT3:=hT2.next hb3;go_wp2_with fail;go_ret;exact ⟨rfl,hT3.below⟩
 | false=>
  obtain ⟨x0,x1,x2⟩:=bx3 hT2.fst;obtain ⟨y0,y1⟩:=bx2 hT2.snd;by_cases hlen:cs.length≤20;rotate_left
  ·have hd1:=Dt (show (20:Int)<cs.length by omega)
   have hd2:=Dt (show 20<cs.length by omega);clear hlen;go_wp2_with fail;refine (HAW.out w2).mono ?_;rintro e w3 ⟨rfl,hb3⟩;have hT3:=hT2.next hb3;go_wp2_with fail;go_ret;exact ⟨rfl,hT3.below⟩
  have hd1:=Df (show ¬ (20:Int)<cs.length by omega);have hd2:=Df (show ¬ (20<cs.length) by omega);have HW2:=hid (HV2.out hlen);clear hlen HV2;go_wp2_with fail;refine (HC1.out w2 hT2.below).mono ?_;rintro e w3 ⟨l1,A1,c1,k1,r1,rfl,hN1,hb3,hd1⟩;have HD1:=hid hd1;have hT3:=hT2.next hb3;clear hT2 hb3 x0 x1 x2 y0 y1 hd1 HC1;go_upto_region 4 with fail;have hba:=below_alloc w3 (.cells #[.int .i64 k1,.slice A1 l1.length c1] 29);have hX:=bx_new w3 #[.int .i64 k1,.slice A1 l1.length c1] 29;have hXl:w3.heap.size<(w3.alloc (.cells #[.int .i64 k1,.slice A1 l1.length c1] 29)).heap.size:=by simp
  have hN1:=hN1.at' hba;have hT3:=hT3.next hba;clear hba;generalize w3.alloc _=w3' at hX hXl hN1 hT3 ⊢;generalize w3.heap.size=b5 at hX hXl ⊢;obtain ⟨x0,x1,x2⟩:=bx3 hT3.fst;go_wp2_with fail;refine (HC2.out w3' hT3.below).mono ?_;rintro e w4 ⟨l2,A2,c2,k2,r2,rfl,hN2,hb4,hd2⟩;obtain ⟨hl,hk,hr,hlen⟩:=ce_same HD1.out hd2;subst hl;subst hk;subst hr;have hT4:=hT3.next hb4;have hX:=hX.below hb4 hXl;have hXl:=Nat.lt_of_lt_of_le hXl hb4.size;have hN1:=hN1.at' hb4;clear hT3 hb4 x0 x1 x2 hd2 HC2 HD1;go_upto_region 5 with fail;have hba:=below_alloc w4 (.cells #[.int .i64 k2,.slice A2 l2.length c2] 29);have hY:=bx_new w4 #[.int .i64 k2,.slice A2 l2.length c2] 29;have hYl:w4.heap.size<(w4.alloc (.cells #[.int .i64 k2,.slice A2 l2.length c2] 29)).heap.size:=by simp
  have hX:=hX.below hba hXl;have hXl:=Nat.lt_of_lt_of_le hXl hba.size;have hN1:=hN1.at' hba;have hN2:=hN2.at' hba;have hT4:=hT4.next hba;clear hba;generalize w4.alloc _=w4' at hX hXl hY hYl hN1 hN2 hT4 ⊢;generalize w4.heap.size=b7 at hY hYl ⊢;obtain ⟨x0,x1,x2⟩:=bx3 hT4.fst;go_wp2_with fail;refine (HS1.out w4' hT4.below).mono ?_;rintro e w5 ⟨l3,A3,c3,r3,rfl,hN3,hb5,hd3⟩;have HD3:=hid hd3;have hT5:=hT4.next hb5;have hX:=hX.below hb5 hXl;have hY:=hY.below hb5 hYl;have hXl:=Nat.lt_of_lt_of_le hXl hb5.size;have hYl:=Nat.lt_of_lt_of_le hYl hb5.size;have hN1:=hN1.at' hb5;have hN2:=hN2.at' hb5;clear hT4 hb5 x0 x1 x2 hd3 HS1;obtain ⟨x0,x1,x2⟩:=bx3 hT5.fst;go_wp2_with fail;refine (HS2.out w5 hT5.below).mono ?_;rintro e w6 ⟨l4,A4,c4,r4,rfl,hN4,hb6,hd4⟩;obtain ⟨hl,hr,hlen3,hin3⟩:=sus_same HD3.out hd4;subst hl;subst hr
  have hT6:=hT5.next hb6;have hX:=hX.below hb6 hXl;have hY:=hY.below hb6 hYl;have hN1:=hN1.at' hb6;have hN2:=hN2.at' hb6;have hN3:=hN3.at' hb6;clear hT5 hb6 x0 x1 x2 hd4 HS2 HD3 hXl hYl;have HSC:=hid (fun (W:World) (hb:Below w6.heap.size w6 W)=>sameCert_same k2 A1 c1 A2 c2 l2 hlen W (hN1.at' hb) (hN2.at' hb));have HSL:=hid (fun (W:World) (hb:Below w6.heap.size w6 W)=>sameLists_same A3 c3 A4 c4 l4 hlen3 hin3 W (hN3.at' hb) (hN4.at' hb));have e1:(r2 == r2)=true:=by simp
  have e2:(r4 == r4)=true:=by simp
  have e3:(vx == vx)=true:=by simp
  clear hN1 hN2 hN3 hN4 hlen hlen3 hin3;obtain ⟨x0,x1,x2⟩:=bx3 hT6.fst;obtain ⟨y0,y1⟩:=bx2 hT6.snd;obtain ⟨z0,z1⟩:=bx2 hX;obtain ⟨u0,u1⟩:=bx2 hY;have HV3:=hid (fun (W:World) (hb:Below w6.heap.size w6 W)=>HV1.out W (hT6.below.trans (hb.mono hT6.below.size)));have HV4:=hid (fun (W:World) (hb:Below w6.heap.size w6 W)=>HW2.out W (hT6.below.trans (hb.mono hT6.below.size)));clear HV1 HW2;go_upto_region 7 with fail;have KSC:=hid (fun d os=>HSC.out (grow (redrawn w6 d) os) (below_regrown w6 d os));have KSL:=hid (fun d os=>HSL.out (grow (redrawn w6 d) os) (below_regrown w6 d os));have KV3:=hid (fun d os=>HV3.out (grow (redrawn w6 d) os) (below_regrown w6 d os));have KV4:=hid (fun d os=>HV4.out (grow (redrawn w6 d) os) (below_regrown w6 d os));have KAW:=hid (fun d os=>HAW.out (grow (redrawn w6 d) os))
  have q0:=fun d os=>cell_regrown (w:=w6) x0 d os
  have q1:=fun d os=>cell_regrown (w:=w6) x1 d os
  have q2:=fun d os=>cell_regrown (w:=w6) x2 d os
  have q3:=fun d os=>cell_regrown (w:=w6) y0 d os
  have q4:=fun d os=>cell_regrown (w:=w6) y1 d os
  have q5:=fun d os=>cell_regrown (w:=w6) z0 d os
  have q6:=fun d os=>cell_regrown (w:=w6) z1 d os
  have q7:=fun d os=>cell_regrown (w:=w6) u0 d os
  have q8:=fun d os=>cell_regrown (w:=w6) u1 d os
  have HT6:=hid hT6.below;clear HSC HSL HV3 HV4 HAW x0 x1 x2 y0 y1 z0 z1 u0 u1 hX hY hT6;refine wp_region_quiet_below (by kernel_rfl) (by kernel_rfl) ?_
  repeat (go_big_quiet_step (first | exact Calls.regrown_of (KSC.out _ _) | exact Calls.regrown_of (KV3.out _ _) | exact Calls.regrown_of (KV4.out _ _) | exact Calls.regrown_of (KSL.out _ _) | exact Calls.regrown_of (KAW.out _ _)))
  refine wpQuiet_nil ?_;rintro _ ⟨pq,rfl⟩;have hb9:=HT6.out.trans ((below_regrown w6 pq.d pq.os).mono HT6.out.size);generalize grow (redrawn w6 pq.d) pq.os=w9 at hb9 ⊢;clear q0 q1 q2 q3 q4 q5 q6 q7 q8;go_wp2_with fail;go_ret;exact ⟨rfl,hb9⟩
end
end Go.Proofs.YtkpjdanfpolimaaGreat
