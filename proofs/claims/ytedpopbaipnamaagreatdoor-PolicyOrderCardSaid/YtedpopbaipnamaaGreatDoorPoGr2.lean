/- The statements' bounds, walked: Great of layers 9 and 55. Conditions: the policy lies in memory. -/
import Derived.Test.YtedpopbaipnamaaGreatDoorPoAwM
import Derived.Test.YtedpopbaipnamaaGreatDoorPoOrd
import Derived.Deep.Cut
import Derived.Deep.DeepCutAuto
import Derived.Deep.RegionHeld3
import Derived.Test.YtedpopbaipnamaaGreatDoorPoRnk
import Derived.Test.YtedpopbaipnamaaGreatDoorPoOrP
import Derived.Laws.NewBlocks
import Derived.Test.YtedpopbaipnamaaGreatDoorPoShelf
namespace Go.Proofs.YtedpopbaipnamaaGreatDoor
open Go.RowKit
set_option maxRecDepth 100000 in
set_option maxHeartbeats 1600000 in
theorem sizeE_any (e:Ex) (lo:Nat) (vs:List Value) (w:World) (hL:LiesE w lo vs e) (hlo:lo≤w.heap.size) :
  Calls Tryz.prog 27 #[.agg vs.toArray] w (Ret (.int .i64 (sizeE e:Nat)) w):=by
 have HS0:∀ W,Below w.heap.size w W→Calls Tryz.prog 47 #[.agg vs.toArray,.int .i64 (0:Nat)] W (Ret (.int .i64 (szE e 0:Nat)) W):=fun W hW=>size_any e 0 lo vs W (by omega) (hL.below' hW hlo) (Nat.le_trans hlo hW.size)
 obtain ⟨A,cap,rfl,bd,-⟩:=hL.arg
 have HS:=Lib.hid HS0
 have hO:=one_new w #[.int .i64 e.kind,.int .i64 e.op,.string e.name,.int .i64 e.val,.slice A e.args.length cap] 45
 have HZ:Hid (sizeE e=if 100<szE e 0 then 101 else szE e 0):=Lib.hid rfl
 generalize sizeE e=R at HZ ⊢
 generalize szE e 0=q at HS HZ
 clear hL bd HS0
 unfold exC Ret at HS
 unfold exC Ret
 by_cases hq:100<q
 ·have e1:decide ((q:Int) > 100)=true:=decide_eq_true (by omega)
  have e2:decide (100<(q:Int))=true:=decide_eq_true (by omega)
  have e3:decide (100<q)=true:=decide_eq_true hq
  have HV:Hid (R=101):=Lib.hid (by rw [HZ.out,if_pos hq])
  clear hq
  go_enter Tryz.func27,Tryz.ntmps27
  go_upto_region 1 with fail
  generalize w.alloc _=w1 at hO ⊢
  obtain ⟨x0,x1,x2,x3,x4⟩:=bx5 hO.fst
  go_wp2_with fail
  refine (HS.out _ hO.below).mono ?_
  rintro e w5 ⟨rfl,hb5⟩
  have HB:=Lib.hid (hO.below.trans (hb5.mono hO.below.size))
  clear x0 x1 x2 x3 x4 hb5 hO
  go_wp2_with fail
  go_ret
  exact ⟨by rw [HV.out]; rfl,HB.out⟩
 ·have e1:decide ((q:Int) > 100)=false:=decide_eq_false (by omega)
  have e2:decide (100<(q:Int))=false:=decide_eq_false (by omega)
  have e3:decide (100<q)=false:=decide_eq_false hq
  have HV:Hid (R=q):=Lib.hid (by rw [HZ.out,if_neg hq])
  clear hq
  go_enter Tryz.func27,Tryz.ntmps27
  go_upto_region 1 with fail
  generalize w.alloc _=w1 at hO ⊢
  obtain ⟨x0,x1,x2,x3,x4⟩:=bx5 hO.fst
  go_wp2_with fail
  refine (HS.out _ hO.below).mono ?_
  rintro e w5 ⟨rfl,hb5⟩
  have HB:=Lib.hid (hO.below.trans (hb5.mono hO.below.size))
  clear x0 x1 x2 x3 x4 hb5 hO
  go_wp2_with fail
  go_ret
  exact ⟨by rw [HV.out]; rfl,HB.out⟩
set_option maxRecDepth 100000 in
set_option maxHeartbeats 1600000 in
theorem grtE_any (e:Ex) (lo:Nat) (vs:List Value) (w:World) (hL:LiesE w lo vs e) (hlo:lo≤w.heap.size) :
  Calls Tryz.prog 12 #[.agg vs.toArray] w (Ret (.bool (grtE e)) w):=by
 have HS0:∀ W,Below w.heap.size w W→Calls Tryz.prog 27 #[.agg vs.toArray] W (Ret (.int .i64 (sizeE e:Nat)) W):=fun W hW=>sizeE_any e lo vs W (hL.below' hW hlo) (Nat.le_trans hlo hW.size)
 have HG0:∀ W,Below w.heap.size w W→Calls Tryz.prog 28 #[.agg vs.toArray] W (Ret (.bool (lgE e)) W):=fun W hW=>long_any e lo vs W (hL.below' hW hlo) (Nat.le_trans hlo hW.size)
 obtain ⟨A,cap,rfl,bd,-⟩:=hL.arg
 have HS:=Lib.hid HS0
 have HG:=Lib.hid HG0
 have hO:=one_new w #[.int .i64 e.kind,.int .i64 e.op,.string e.name,.int .i64 e.val,.slice A e.args.length cap] 45
 have HZ:Hid (grtE e=((decide (40<sizeE e) && decide (sizeE e≤100)) || (decide (sizeE e≤40) && lgE e))):=Lib.hid rfl
 generalize grtE e=R at HZ ⊢
 generalize sizeE e=q at HS HZ
 generalize lgE e=g at HG HZ
 clear hL bd HS0 HG0
 unfold exC Ret at HS HG
 unfold exC Ret
 have hw:100<q∨(40<q∧q≤100)∨q≤40:=by omega
 rcases hw with hq | hq | hq
 ·have a1:decide ((q:Int) > 40)=true:=decide_eq_true (by omega)
  have a2:decide (40<(q:Int))=true:=decide_eq_true (by omega)
  have a3:decide (40<q)=true:=decide_eq_true (by omega)
  have b1:decide ((q:Int)≤100)=false:=decide_eq_false (by omega)
  have b3:decide (q≤100)=false:=decide_eq_false (by omega)
  have c1:decide ((q:Int)≤40)=false:=decide_eq_false (by omega)
  have c3:decide (q≤40)=false:=decide_eq_false (by omega)
  have HV:Hid (R=false):=Lib.hid (by rw [HZ.out,a3,b3,c3]; rfl)
  clear hq
  go_enter Tryz.func12,Tryz.ntmps12
  go_upto_region 1 with fail
  generalize w.alloc _=w1 at hO ⊢
  obtain ⟨x0,x1,x2,x3,x4⟩:=bx5 hO.fst
  go_wp2_with fail
  refine (HS.out _ hO.below).mono ?_
  rintro e w5 ⟨rfl,hb5⟩
  have HB:=Lib.hid (hO.below.trans (hb5.mono hO.below.size))
  clear x0 x1 x2 x3 x4 hb5 hO
  go_wp2_with fail
  go_ret
  exact ⟨by rw [HV.out]; rfl,HB.out⟩
 ·have a1:decide ((q:Int) > 40)=true:=decide_eq_true (by omega)
  have a2:decide (40<(q:Int))=true:=decide_eq_true (by omega)
  have a3:decide (40<q)=true:=decide_eq_true (by omega)
  have b1:decide ((q:Int)≤100)=true:=decide_eq_true (by omega)
  have b3:decide (q≤100)=true:=decide_eq_true (by omega)
  have HV:Hid (R=true):=Lib.hid (by rw [HZ.out,a3,b3]; rfl)
  clear hq
  go_enter Tryz.func12,Tryz.ntmps12
  go_upto_region 1 with fail
  generalize w.alloc _=w1 at hO ⊢
  obtain ⟨x0,x1,x2,x3,x4⟩:=bx5 hO.fst
  go_wp2_with fail
  refine (HS.out _ hO.below).mono ?_
  rintro e w5 ⟨rfl,hb5⟩
  have HB:=Lib.hid (hO.below.trans (hb5.mono hO.below.size))
  clear x0 x1 x2 x3 x4 hb5 hO
  go_wp2_with fail
  go_ret
  exact ⟨by rw [HV.out]; rfl,HB.out⟩
 ·have a1:decide ((q:Int) > 40)=false:=decide_eq_false (by omega)
  have a2:decide (40<(q:Int))=false:=decide_eq_false (by omega)
  have a3:decide (40<q)=false:=decide_eq_false (by omega)
  have c1:decide ((q:Int)≤40)=true:=decide_eq_true (by omega)
  have c3:decide (q≤40)=true:=decide_eq_true (by omega)
  have HV:Hid (R=g):=Lib.hid (by rw [HZ.out,a3,c3]; simp)
  clear hq
  go_enter Tryz.func12,Tryz.ntmps12
  go_upto_region 1 with fail
  generalize w.alloc _=w1 at hO ⊢
  obtain ⟨x0,x1,x2,x3,x4⟩:=bx5 hO.fst
  go_wp2_with fail
  refine (HS.out _ hO.below).mono ?_
  rintro e w5 ⟨rfl,hb5⟩
  replace hO:=hO.next hb5
  clear x0 x1 x2 x3 x4 hb5
  obtain ⟨x0,x1,x2,x3,x4⟩:=bx5 hO.fst
  go_wp2_with fail
  refine (HG.out _ hO.below).mono ?_
  rintro e w6 ⟨rfl,hb6⟩
  have HB:=Lib.hid (hO.below.trans (hb6.mono hO.below.size))
  clear x0 x1 x2 x3 x4 hb6 hO
  go_wp2_with fail
  go_ret
  exact ⟨by rw [HV.out]; rfl,HB.out⟩
theorem grt_at {rs:List Rl} {j:Nat} (h:∀ (q:Nat) (hq:q<rs.length),q<j→(grtE rs[q].cond || grtE rs[q].key)=false) (hj:j<rs.length) (h20:¬ 20<rs.length):((grtE rs[j].cond || grtE rs[j].key)=true→grtP rs=true)∧((grtE rs[j].cond || grtE rs[j].key)=false→∀ (q:Nat) (hq:q<rs.length),q<j+1→(grtE rs[q].cond || grtE rs[q].key)=false):=by
 constructor
 ·intro e
  unfold grtP
  rw [decide_eq_false h20,Bool.false_or,List.any_eq_true]
  exact ⟨rs[j],List.getElem_mem hj,e⟩
 ·intro e q hq hqj
  by_cases e2:q=j
  ·subst e2; exact e
  ·exact h q hq (by omega)
set_option maxRecDepth 100000 in
set_option maxHeartbeats 3200000 in
theorem great_any (A:Option Addr) (c B:Nat) (rs:List Rl) (w:World) (hP:LiesP w B A c rs) (hB:B≤w.heap.size) :
  Calls Tryz.prog 4 #[.agg #[.slice A rs.length c]] w (Ret (.bool (grtP rs)) w):=by
 have hl:=hP.len
 have HP:=Lib.hid hP
 have hO:=one_new w #[.slice A rs.length c] 24
 unfold Ret
 clear hP
 by_cases h20:20<rs.length
 ·have e1:decide ((rs.length:Int) > 20)=true:=decide_eq_true (by omega)
  have e2:decide (20<(rs.length:Int))=true:=decide_eq_true (by omega)
  have e3:decide (20<rs.length)=true:=decide_eq_true h20
  have HV:Hid (grtP rs=true):=Lib.hid (by unfold grtP; rw [e3]; rfl)
  clear h20
  go_enter Tryz.func4,Tryz.ntmps4
  go_upto_region 1 with fail
  generalize w.alloc _=w1 at hO ⊢
  have x0:=hO.fst 0 _ rfl
  go_wp2_with fail
  go_ret
  exact ⟨by rw [HV.out]; rfl,hO.below⟩
 ·have e1:decide ((rs.length:Int) > 20)=false:=decide_eq_false (by omega)
  have e2:decide (20<(rs.length:Int))=false:=decide_eq_false (by omega)
  have e3:decide (20<rs.length)=false:=decide_eq_false h20
  have H20:=Lib.hid h20
  clear h20
  go_enter Tryz.func4,Tryz.ntmps4
  go_upto_region 1 with fail
  generalize w.alloc _=w1 at hO ⊢
  have x0:=hO.fst 0 _ rfl
  go_wp2_with fail
  go_loopw [2,3] (fun r i wr=>r=.bool false∧∃ j:Nat,i=.int .i64 (j:Nat)∧j≤rs.length∧Hid (∀ (q:Nat) (hq:q<rs.length),q<j→(grtE rs[q].cond || grtE rs[q].key)=false)∧Below w1.heap.size w1 wr) (fun _ i _=>rs.length - (intOf i).toNat)
  case atStart=>exact ⟨rfl,0,rfl,Nat.zero_le _,Lib.hid (fun q hq h=>by omega),Below.refl _ _⟩
  case round=>
   clear x0
   obtain ⟨rfl,j,rfl,hj,hck,hb⟩:=hrel
   have hj0:(0:Int)≤(j:Int):=by omega
   have hOr:=hO.next hb
   have x0:=hOr.fst 0 _ rfl
   have HBW:=Lib.hid hOr.below
   have HB:=Lib.hid hb
   by_cases hlt:j<rs.length
   ·have hd1:decide ((j:Int)<(rs.length:Int))=true:=decide_eq_true (by omega)
    have hwr1:IntKind.i64.wrap ((j:Int)+1)=(j:Int)+1:=by rw [IntKind.wrap_i64]; omega
    have hd2:decide (j<rs.length)=true:=decide_eq_true hlt
    have hjl:(j:Int)<(rs.length:Int):=by omega
    obtain ⟨b,off,k,o,n,v,A1,m1,c1,k2,o2,n2,v2,A2,m2,c2,rfl,hb1,hL1,hL2,y0,y1,y2,y3,y4,y5,y6,y7,y8,y9⟩:=(HP.out.below' HBW.out hB).at_ j hlt
    have hlo:B≤wr.heap.size:=Nat.le_trans hB HBW.out.size
    have HSTEP:=Lib.hid (grt_at hck.out hlt H20.out)
    have HT1:Hid (Calls Tryz.prog 12 #[.agg (exC k o n v A1 m1 c1).toArray] wr (Ret (.bool (grtE rs[j].cond)) wr)):=Lib.hid (grtE_any _ B _ wr hL1 hlo)
    have HT2:Hid (∀ W,Below wr.heap.size wr W→Calls Tryz.prog 12 #[.agg (exC k2 o2 n2 v2 A2 m2 c2).toArray] W (Ret (.bool (grtE rs[j].key)) W)):=Lib.hid (fun W hW=>grtE_any _ B _ W (hL2.below' hW hlo) (Nat.le_trans hlo hW.size))
    generalize grtE rs[j].cond=f1 at HT1 HSTEP
    generalize grtE rs[j].key=f2 at HT2 HSTEP
    unfold exC Ret at HT1 HT2
    have hzb:b<wr.heap.size:=by omega
    clear hb hck hL1 hL2
    cases f1 with
    | true=>
     have HV:=Lib.hid (HSTEP.out.1 rfl)
     go_wp2_with fail
     refine HT1.out.mono ?_
     rintro e w5 ⟨rfl,hb5⟩
     have HB9:=Lib.hid (HBW.out.trans (hb5.mono HBW.out.size))
     clear y0 y1 y2 y3 y4 y5 y6 y7 y8 y9 hb5 x0 hOr
     go_wp2_with fail
     go_ret
     exact ⟨by rw [HV.out]; rfl,HB9.out⟩
    | false=>
     go_wp2_with fail
     refine HT1.out.mono ?_
     rintro e w5 ⟨rfl,hb5⟩
     have x5:=(hOr.next hb5).fst 0 _ rfl
     have z5:=(hb5.cell (p:=⟨b,off+j * 10+5,none⟩) hzb).trans y5
     have z6:=(hb5.cell (p:=⟨b,off+j * 10+6,none⟩) hzb).trans y6
     have z7:=(hb5.cell (p:=⟨b,off+j * 10+7,none⟩) hzb).trans y7
     have z8:=(hb5.cell (p:=⟨b,off+j * 10+8,none⟩) hzb).trans y8
     have z9:=(hb5.cell (p:=⟨b,off+j * 10+9,none⟩) hzb).trans y9
     have HB5:=Lib.hid hb5
     clear y0 y1 y2 y3 y4 y5 y6 y7 y8 y9 hb5 x0 hOr
     cases f2 with
     | true=>
      have HV:=Lib.hid (HSTEP.out.1 rfl)
      go_wp2_with fail
      refine (HT2.out _ HB5.out).mono ?_
      rintro e w6 ⟨rfl,hb6⟩
      have HB9:=Lib.hid (HBW.out.trans ((HB5.out.trans (hb6.mono HB5.out.size)).mono HBW.out.size))
      clear z5 z6 z7 z8 z9 x5 hb6
      go_wp2_with fail
      go_ret
      exact ⟨by rw [HV.out]; rfl,HB9.out⟩
     | false=>
      have HV:=Lib.hid (HSTEP.out.2 rfl)
      go_wp2_with fail
      refine (HT2.out _ HB5.out).mono ?_
      rintro e w6 ⟨rfl,hb6⟩
      have HB9:=Lib.hid (HB.out.trans ((HB5.out.trans (hb6.mono HB5.out.size)).mono HB.out.size))
      clear z5 z6 z7 z8 z9 x5 hb6
      go_wp2_with fail
      exact ⟨⟨rfl,j+1,by go_num,by omega,Lib.hid HV.out,HB9.out⟩,by simp [intOf]; omega⟩
   ·have hd1:decide ((j:Int)<(rs.length:Int))=false:=decide_eq_false (by omega)
    have hd2:decide (j<rs.length)=false:=decide_eq_false hlt
    have HV:Hid (grtP rs=false):=Lib.hid (by
     unfold grtP
     rw [decide_eq_false H20.out,Bool.false_or,List.any_eq_false]
     intro r hr
     obtain ⟨q,hq,rfl⟩:=List.getElem_of_mem hr
     have:=hck.out q hq (by omega)
     rw [this]; simp)
    clear hck hOr hb
    go_wp2_with fail
    go_ret
    exact ⟨by rw [HV.out]; rfl,HBW.out⟩
end Go.Proofs.YtedpopbaipnamaaGreatDoor

namespace Go.Proofs.YtedpopbaipnamaaGreatDoor
open Go.RowKit
def awLs:List At:=[⟨3,0,awB 1 0 3⟩,⟨2,0,awB 1 1 2⟩,⟨1,0,awB 0 0 1⟩,⟨4,0,awB 5 2 4⟩]
theorem aw_allFit:allFit awLs=true:=by kernel_rfl
theorem aw_rk:(fun i=>rankR awRs (awLs.getD i ⟨0,0,[]⟩).vals)=awRk:=by
 funext i
 match i with
 | 0 | 1 | 2 | 3=>rfl
 | i+4=>rfl
/-- Rows of bindings that stand. -/
def AwRows (W:World) (l:List (Nat × List Bd)):Prop:=∀ p∈l,p.1<W.heap.size∧AwRow W p.1 p.2
theorem AwRows.next {W W':World} {l:List (Nat × List Bd)} (h:AwRows W l) (hb:Below W.heap.size W W'):AwRows W' l:=fun p hp=>⟨Nat.lt_of_lt_of_le (h p hp).1 hb.size,(hb.block _ (h p hp).1).trans (h p hp).2⟩
theorem AwRows.put {W:World} {l:List (Nat × List Bd)} (h:AwRows W l) {K:Nat} {bs:List Bd} (hk:AwRow W K bs):AwRows W ((K,bs)::l):=fun p hp=>by
 rcases List.mem_cons.1 hp with rfl | hp
 ·exact ⟨(Array.getElem?_eq_some_iff.1 hk).1,hk⟩
 ·exact h p hp
theorem AwRow.rd {W:World} {K:Nat} {bs:List Bd} (h:AwRow W K bs) (B:Nat) (hB:K<B):RdB W B (some ⟨K,0,none⟩) bs:=by
 refine ⟨flat_len (f:=Bd.cells) (s:=3) (fun _=>rfl) _,.inr ⟨K,0,rfl,hB,fun j u hu=>?_⟩⟩
 have:=cell_of_row W K j _ _ _ h
 rw [Nat.zero_add,this]
 simpa using hu
/-- The four attributes lie in memory. -/
theorem aw_lies {W:World} {K1 K2 K3 K4:Nat} {l:List (Nat × List Bd)} (h:AwRows W ((K4,awB 5 2 4)::(K3,awB 0 0 1)::(K2,awB 1 1 2)::(K1,awB 1 0 3)::l)) :
  LiesA (W.alloc (.cells #[.int .i64 3,.int .i64 0,.slice (some ⟨K1,0,none⟩) 11 11,.int .i64 2,.int .i64 0,.slice (some ⟨K2,0,none⟩) 11 11,.int .i64 1,.int .i64 0,.slice (some ⟨K3,0,none⟩) 11 11,.int .i64 4,.int .i64 0,.slice (some ⟨K4,0,none⟩) 11 11] 32)) (W.heap.size+1) (some ⟨W.heap.size,0,none⟩) 4 awLs:=by
 have hb:=below_alloc W (.cells #[.int .i64 3,.int .i64 0,.slice (some ⟨K1,0,none⟩) 11 11,.int .i64 2,.int .i64 0,.slice (some ⟨K2,0,none⟩) 11 11,.int .i64 1,.int .i64 0,.slice (some ⟨K3,0,none⟩) 11 11,.int .i64 4,.int .i64 0,.slice (some ⟨K4,0,none⟩) 11 11] 32)
 have hx:=bx_new W #[.int .i64 3,.int .i64 0,.slice (some ⟨K1,0,none⟩) 11 11,.int .i64 2,.int .i64 0,.slice (some ⟨K2,0,none⟩) 11 11,.int .i64 1,.int .i64 0,.slice (some ⟨K3,0,none⟩) 11 11,.int .i64 4,.int .i64 0,.slice (some ⟨K4,0,none⟩) 11 11] 32
 have h':=h.next hb
 have m4:=h' (K4,awB 5 2 4) (by simp)
 have m3:=h' (K3,awB 0 0 1) (by simp)
 have m2:=h' (K2,awB 1 1 2) (by simp)
 have m1:=h' (K1,awB 1 0 3) (by simp)
 generalize W.alloc _=W' at *
 have n4:=(h (K4,awB 5 2 4) (by simp)).1
 have n3:=(h (K3,awB 0 0 1) (by simp)).1
 have n2:=(h (K2,awB 1 1 2) (by simp)).1
 have n1:=(h (K1,awB 1 0 3) (by simp)).1
 refine ⟨by decide,fun i hi=>?_⟩
 match i,hi with
 | 0,_=>exact ⟨show 11≤9223372036854775807 from by decide,W.heap.size,0,some ⟨K1,0,none⟩,11,rfl,Nat.lt_succ_self _,m1.2.rd _ (by omega),hx 0 _ rfl,hx 1 _ rfl,hx 2 _ rfl⟩
 | 1,_=>exact ⟨show 11≤9223372036854775807 from by decide,W.heap.size,0,some ⟨K2,0,none⟩,11,rfl,Nat.lt_succ_self _,m2.2.rd _ (by omega),hx 3 _ rfl,hx 4 _ rfl,hx 5 _ rfl⟩
 | 2,_=>exact ⟨show 11≤9223372036854775807 from by decide,W.heap.size,0,some ⟨K3,0,none⟩,11,rfl,Nat.lt_succ_self _,m3.2.rd _ (by omega),hx 6 _ rfl,hx 7 _ rfl,hx 8 _ rfl⟩
 | 3,_=>exact ⟨show 11≤9223372036854775807 from by decide,W.heap.size,0,some ⟨K4,0,none⟩,11,rfl,Nat.lt_succ_self _,m4.2.rd _ (by omega),hx 9 _ rfl,hx 10 _ rfl,hx 11 _ rfl⟩
 | i+4,hi=>exact absurd hi (by show ¬ i+4<4; omega)
/-- What Order gives for them. -/
theorem aw_order (W W4:World) (A:Option Addr) (c:Nat) {B:Nat} (hP:LiesP W B A c awRs) (hb:Below W.heap.size W W4) (hB:B≤W.heap.size) {K1 K2 K3 K4:Nat} {l:List (Nat × List Bd)} (h:AwRows W4 ((K4,awB 5 2 4)::(K3,awB 0 0 1)::(K2,awB 1 1 2)::(K1,awB 1 0 3)::l)) :
  let W5:=W4.alloc (.cells #[.int .i64 3,.int .i64 0,.slice (some ⟨K1,0,none⟩) 11 11,.int .i64 2,.int .i64 0,.slice (some ⟨K2,0,none⟩) 11 11,.int .i64 1,.int .i64 0,.slice (some ⟨K3,0,none⟩) 11 11,.int .i64 4,.int .i64 0,.slice (some ⟨K4,0,none⟩) 11 11] 32)
  Calls Tryz.prog 9 #[.agg #[.slice A 2 c],.slice (some ⟨W4.heap.size,0,none⟩) 4 4] W5 (fun e W'=>∃ (A':Option Addr) (c':Nat),e=.returned (.tuple #[.slice A' 4 c',.int .i64 0])∧Below W5.heap.size W5 W'∧4≤c'∧Rd W' W'.heap.size 1 A' 4 ([3,1,2,0].map natV)):=by
 intro W5
 have hb5:Below W.heap.size W W5:=hb.trans ((below_alloc _ _).mono hb.size)
 have hs5:W5.heap.size=W4.heap.size+1:=by simp [W5]
 have:=order_any A c (W4.heap.size+1) awRs (some ⟨W4.heap.size,0,none⟩) 4 awLs W5 ((hP.below' hb5 hB).more (by have:=hb.size; omega)) (by omega) (aw_lies h) (by decide)
 refine this.mono ?_
 rintro e W' ⟨hbb,h1 | h1 | h1⟩
 ·exact absurd aw_valid h1.1
 ·rw [aw_allFit] at h1; cases h1.2.1
 ·obtain ⟨-,-,A',c',l',rfl,hl,hi,hr⟩:=h1
  rw [aw_rk] at hi
  obtain rfl:=hi.unique aw_ord
  exact ⟨A',c',rfl,hbb,hl,hr⟩
set_option maxRecDepth 100000 in
set_option maxHeartbeats 6400000 in
theorem awake_any (w:World) (hen:Env w.heap.size w):Calls Tryz.prog 8 #[] w (Ret (.bool true) w):=by
 have HPA:=Lib.hid (parse_any awS (by decide) w hen)
 rw [aw_parse] at HPA
 unfold ParR Ret at *
 unfold awS at HPA
 have hen2:=Lib.hid hen
 clear hen
 go_enter Tryz.func8,Tryz.ntmps8
 go_upto_region 2 with (go_at_call 14; refine HPA.out.mono ?_; rintro e W1 ⟨hb1,A,c,rfl,hP⟩)
 have hx:(W1.alloc (.cells #[.slice A awRs.length c] 24)).cell? ⟨W1.heap.size,0,none⟩=some (.slice A 2 c):=bx_new W1 #[.slice A awRs.length c] 24 0 _ rfl
 have hb2:=below_alloc W1 (.cells #[.slice A awRs.length c] 24)
 have hz2:W1.heap.size<(W1.alloc (.cells #[.slice A awRs.length c] 24)).heap.size:=by simp
 generalize W1.alloc _=w2 at hx hb2 hz2 ⊢
 have HW2:=Lib.hid (hb1.trans (hb2.mono hb1.size))
 have HX:Hid (∀ W,Below w2.heap.size w2 W→W.cell? ⟨W1.heap.size,0,none⟩=some (.slice A 2 c)):=Lib.hid (fun W hW=>(hW.cell (p:=⟨W1.heap.size,0,none⟩) hz2).trans hx)
 have HOD:=Lib.hid (fun (W4:World) (hb:Below w2.heap.size w2 W4) (K1 K2 K3 K4:Nat) (l:List (Nat × List Bd)) h=>aw_order W1 W4 A c (K1:=K1) (K2:=K2) (K3:=K3) (K4:=K4) (l:=l) hP (hb2.trans (hb.mono hb2.size)) (Nat.le_refl _) h)
 have HPR:Hid (∀ W,Below w2.heap.size w2 W→Calls Tryz.prog 16 #[.agg #[.slice A 2 c]] W (Ret (.tuple #[.string ⟨awP.toArray⟩,.int .i64 0]) W)):=Lib.hid (fun W hW=>by
  have h1:=hb2.trans (hW.mono hb2.size)
  have h2:=HW2.out.trans (hW.mono HW2.out.size)
  have:=pprint_any A c W1.heap.size awRs W (hP.below' h1 (Nat.le_refl _)) h1.size (fun W' hW'=>hen2.out.tab W' (h2.trans (hW'.mono h2.size)))
  rwa [show pprV awRs=.tuple #[.string ⟨awP.toArray⟩,.int .i64 0] from by unfold pprV; rw [if_pos aw_valid,aw_print]] at this)
 have HAT:=Lib.hid (fun e h i W=>attrs_any e h i W)
 clear HPA hb1 hb2 hP
 go_cut [4,5] (fun r4 r5 wx=>r5=.int .i64 0∧∃ (A':Option Addr) (c':Nat),r4=.slice A' 4 c'∧Below w2.heap.size w2 wx∧4≤c'∧Rd wx wx.heap.size 1 A' 4 ([3,1,2,0].map natV))
 case first=>
  have hB:Below w2.heap.size w2 w2.drew:=below_drews _ _ 1
  have HR:Hid (AwRows w2.drew []):=Lib.hid (fun p hp=>by cases hp)
  have hzx:W1.heap.size<w2.drew.heap.size:=hz2
  go_region_held3 (fun w'=>w'.cell? ⟨W1.heap.size,0,none⟩=some (.slice A 2 c)) (first | assumption | exact (World.cell?_alloc_lt _ _ _ (by assumption)).trans (by assumption))
   (first
   | (go_at_call 15; refine (HAT.out _ _ _ _).mono ?_; rintro en W ⟨hb,K,rfl,-,hrow⟩; replace HR:=Lib.hid ((HR.out.next hb).put hrow); replace hB:=hB.trans (hb.mono hB.size); replace hzx:=Nat.lt_of_lt_of_le hzx hb.size; have hx:=HX.out _ hB; clear hrow hb)
   | (go_at_call 9; refine (HOD.out _ hB _ _ _ _ _ HR.out).mono ?_; rintro en W ⟨A',c',rfl,hb,hc,hr⟩; replace hB:=(hB.trans ((below_alloc _ _).mono hB.size)).trans (hb.mono (hB.trans ((below_alloc _ _).mono hB.size)).size); have hx:=HX.out _ hB))
  go_wp2_with fail
  go_meet
  exact ⟨rfl,A',c',rfl,hB,hc,hr⟩
 case rest=>
  obtain ⟨rfl,A',c',rfl,hBx,hc',hr⟩:=hcut
  have hx:=HX.out _ hBx
  obtain ⟨b,off,rfl,hb,hcell⟩:=Rd.addr hr (by decide)
  have HPR3:=Lib.hid (HPR.out _ hBx)
  have HW3:=Lib.hid (HW2.out.trans (hBx.mono HW2.out.size))
  unfold Ret awP at HPR3
  have HEQ:=Lib.hid (fun (W:World) (hW:Below wc.heap.size wc W)=>Tryz.slices_Equal_int b off 4 c' W.heap.size 0 4 4 [3,1,2,0] [3,1,2,0] (W.alloc (.cells #[.int .i64 3,.int .i64 1,.int .i64 2,.int .i64 0] 3)) (by decide) (by decide) (by decide) (by decide) (fun j hj=>by
   have h1:Below wc.heap.size wc (W.alloc (.cells #[.int .i64 3,.int .i64 1,.int .i64 2,.int .i64 0] 3)):=hW.trans ((below_alloc _ _).mono hW.size)
   refine (h1.cell (p:=⟨b,off+j,none⟩) hb).trans (hcell j _ ?_)
   match j,hj with
   | 0,_ | 1,_ | 2,_ | 3,_=>rfl
   | j+4,hj=>exact absurd hj (by show ¬ j+4<4; omega)) (fun j hj=>by
   have hx:=bx_new W #[.int .i64 3,.int .i64 1,.int .i64 2,.int .i64 0] 3
   match j,hj with
   | 0,_=>exact hx 0 _ rfl
   | 1,_=>exact hx 1 _ rfl
   | 2,_=>exact hx 2 _ rfl
   | 3,_=>exact hx 3 _ rfl
   | j+4,hj=>exact absurd hj (by show ¬ j+4<4; omega)))
  clear hr hcell hBx HPR HX HAT HOD HW2 hen2
  go_wp2_with (first
   | (go_at_call 16; refine HPR3.out.mono ?_; rintro e W4 ⟨rfl,hb4⟩)
   | (go_at_call 11; refine (HEQ.out _ hb4).mono ?_; rintro e W5 ⟨rfl,q,rfl⟩))
  go_ret
  exact ⟨rfl,HW3.out.trans ((hb4.trans (((below_alloc _ _).mono hb4.size).trans (below_drews _ _ q))).mono HW3.out.size)⟩
end Go.Proofs.YtedpopbaipnamaaGreatDoor

namespace Go.Proofs.YtedpopbaipnamaaGreatDoor
open Go.RowKit Go.Deep
theorem cell_of_cells {W:World} {g j:Nat} {L:List Value} {T:TypeId} {fz:Nat × Nat} (h:W.heap[g]? = some (.cells L.toArray T fz)) {u:Value} (hu:L[j]? = some u):W.cell? ⟨g,j,none⟩=some u:=by
 simp only [World.cell?,h]
 rw [List.getElem?_toArray]
 exact hu
end Go.Proofs.YtedpopbaipnamaaGreatDoor

namespace Go.Proofs.YtedpopbaipnamaaGreatDoor
open Go.RowKit
/-- What Order's results say. -/
def OrdQ (rs:List Rl) (ls:List At) (W:World) (A:Option Addr) (n c f:Nat):Prop:=(f≠0∧(chkP rs≠0∨allFit ls=false)) ∨
 (f=0∧n=ls.length∧n≤c∧chkP rs=0∧allFit ls=true∧∃ l:List Nat,IsOrd ls.length (fun i=>rankR rs (ls.getD i ⟨0,0,[]⟩).vals) l∧Rd W W.heap.size 1 A ls.length (l.map natV))
theorem OrdQ.ok {rs:List Rl} {ls:List At} {W:World} {A:Option Addr} {n c f:Nat} (h:OrdQ rs ls W A n c f) (h1:chkP rs=0) (h2:allFit ls=true):f=0∧n=ls.length∧n≤c∧∃ l:List Nat,IsOrd ls.length (fun i=>rankR rs (ls.getD i ⟨0,0,[]⟩).vals) l∧Rd W W.heap.size 1 A ls.length (l.map natV):=by
 rcases h with ⟨_,h | h⟩ | ⟨hf,hn,hc,_,_,l,ho,hr⟩
 ·exact absurd h1 h
 ·rw [h2] at h; cases h
 ·exact ⟨hf,hn,hc,l,ho,hr⟩
/-- The error's number, and the order that both give. -/
def oF (rs:List Rl) (ls:List At):Nat:=if chkP rs=0 then (if allFit ls=true then 0 else 1) else chkP rs
def OQ (rs:List Rl) (ls:List At) (l:List Nat):Prop:=(chkP rs=0∧allFit ls=true→IsOrd ls.length (fun i=>rankR rs (ls.getD i ⟨0,0,[]⟩).vals) l)∧(¬ (chkP rs=0∧allFit ls=true)→l=[])
theorem OQ.unique {rs:List Rl} {ls:List At} {l m:List Nat} (h1:OQ rs ls l) (h2:OQ rs ls m):l=m:=by
 by_cases h:chkP rs=0∧allFit ls=true
 ·exact (h1.1 h).unique (h2.1 h)
 ·rw [h1.2 h,h2.2 h]
theorem OQ.len {rs:List Rl} {ls:List At} {l:List Nat} (h1:OQ rs ls l):l.length≤ls.length:=by
 by_cases h:chkP rs=0∧allFit ls=true
 ·rw [(h1.1 h).len]; exact Nat.le_refl _
 ·rw [h1.2 h]; exact Nat.zero_le _
def OrdS (rs:List Rl) (ls:List At) (w:World):Ending→World→Prop:=fun e W=>Below w.heap.size w W∧∃ (A:Option Addr) (c:Nat) (l:List Nat),e=.returned (.tuple #[.slice A l.length c,.int .i64 (oF rs ls:Nat)])∧OQ rs ls l∧Rd W W.heap.size 1 A l.length (l.map natV)
theorem ordR_s {rs:List Rl} {ls:List At} {w W:World} {e:Ending} (h:OrdR rs ls w e W):OrdS rs ls w e W:=by
 obtain ⟨hb,h⟩:=h
 refine ⟨hb,?_⟩
 rcases h with ⟨h1,rfl⟩ | ⟨h1,h2,rfl⟩ | ⟨h1,h2,A,c,l,rfl,hc,ho,hr⟩
 ·exact ⟨none,0,[],by unfold oF; rw [if_neg h1]; rfl,⟨fun h=>absurd h.1 h1,fun _=>rfl⟩,rfl,.inl rfl⟩
 ·exact ⟨none,0,[],by unfold oF; rw [if_pos h1,if_neg (by rw [h2]; simp)]; rfl,⟨fun h=>(by rw [h2] at h; cases h.2),fun _=>rfl⟩,rfl,.inl rfl⟩
 ·exact ⟨A,c,l,by unfold oF; rw [if_pos h1,if_pos h2,ho.len]; rfl,⟨fun _=>ho,fun h=>absurd ⟨h1,h2⟩ h⟩,by rw [ho.len]; exact hr⟩
def zI (l:List Nat):List Int:=l.map Int.ofNat
theorem zI_len (l:List Nat):(zI l).length=l.length:=by simp [zI]
theorem zI_at (l:List Nat) {j:Nat} (hj:j<l.length):(l.map natV)[j]? = some (.int .i64 ((zI l).getD j 0)):=by
 rw [List.getElem?_map,List.getElem?_eq_getElem hj]
 simp [natV,zI,List.getD,List.getElem?_eq_getElem hj]
/-- Equal of the same numbers. -/
theorem eq_rd (A1 A2:Option Addr) (c1 c2 B1 B2:Nat) (l:List Nat) (w:World) (h1:Rd w B1 1 A1 l.length (l.map natV)) (h2:Rd w B2 1 A2 l.length (l.map natV)) (hl:l.length≤64) :
  Calls Tryz.prog 11 #[.slice A1 l.length c1,.slice A2 l.length c2] w (Ret (.bool true) w):=by
 by_cases h0:l.length=0
 ·rw [h0]
  exact (Tryz.slices_Equal_int_empty A1 A2 c1 0 c2 w (by omega)).mono fun e W h=>⟨by rw [h.1]; rfl,by rw [h.2]; exact Below.refl _ _⟩
 ·obtain ⟨b1,o1,rfl,-,g1⟩:=h1.addr (by omega)
  obtain ⟨b2,o2,rfl,-,g2⟩:=h2.addr (by omega)
  have hzl:=zI_len l
  refine (Tryz.slices_Equal_int b1 o1 l.length c1 b2 o2 l.length c2 (zI l) (zI l) w (by omega) (by omega) (by omega) (by omega) (fun j hj=>g1 j _ (zI_at l (by omega))) (fun j hj=>g2 j _ (zI_at l (by omega)))).mono fun e W h=>?_
  obtain ⟨h3,q,h4⟩:=h
  exact ⟨by rw [h3]; simp,by rw [h4]; exact below_drews _ _ _⟩
theorem eq_n (A1 A2:Option Addr) (c1 c2 B1 B2 n:Nat) (l:List Nat) (w:World) (hn:n=l.length) (h1:Rd w B1 1 A1 n (l.map natV)) (h2:Rd w B2 1 A2 n (l.map natV)) (hl:n≤64) :
  Calls Tryz.prog 11 #[.slice A1 n c1,.slice A2 n c2] w (Ret (.bool true) w):=by
 subst hn
 exact eq_rd A1 A2 c1 c2 B1 B2 l w h1 h2 hl
theorem fit_at {ls:List At} (h:allFit ls=true) (k:Nat) (hk:k<ls.length):BdOk (ls[k]'hk).vals:=bdok_fits (List.all_eq_true.1 h _ (List.getElem_mem hk))
end Go.Proofs.YtedpopbaipnamaaGreatDoor

namespace Go.Proofs.YtedpopbaipnamaaGreatDoor
open Go.RowKit
def AnyB (w:World):Ending→World→Prop:=fun e W=>∃ v:Bool,e=.returned (.bool v)∧Below w.heap.size w W
set_option maxRecDepth 100000 in
set_option maxHeartbeats 3200000 in
theorem gbind_any (bs:List Bd) (Ab:Option Addr) (cb Bb:Nat) (w:World) (hR:RdB w Bb Ab bs) (hBb:Bb≤w.heap.size) :
  Calls Tryz.prog 7 #[.slice Ab bs.length cb] w (AnyB w):=by
 have HR:=Lib.hid hR
 clear hR
 unfold AnyB
 go_enter Tryz.func7,Tryz.ntmps7
 go_wp2_with fail
 go_loopw [2,3] (fun r i wr=>r=.bool false∧∃ j:Nat,i=.int .i64 (j:Nat)∧j≤bs.length∧j≤70∧Hid (Below w.heap.size w wr)) (fun _ i _=>bs.length - (intOf i).toNat)
 case atStart=>exact ⟨rfl,0,rfl,Nat.zero_le _,by omega,Lib.hid (Below.refl _ _)⟩
 case round=>
  obtain ⟨rfl,j,rfl,hj,hj70,HB⟩:=hrel
  have hj0:(0:Int)≤(j:Int):=by omega
  by_cases hlt:j<bs.length
  ·have hd1:decide ((j:Int)<(bs.length:Int))=true:=decide_eq_true (by omega)
   have hd2:decide (j<bs.length)=true:=decide_eq_true hlt
   have hjl:(j:Int)<(bs.length:Int):=by omega
   have hwr1:IntKind.i64.wrap ((j:Int)+1)=(j:Int)+1:=by rw [IntKind.wrap_i64]; omega
   by_cases h70:j<70
   ·have hs1:decide ((j:Int)<70)=true:=decide_eq_true (by omega)
    have hs2:decide (j<70)=true:=decide_eq_true h70
    have hRw:RdB wr Bb Ab bs:=Rd.below' HR.out HB.out hBb
    obtain ⟨b,off,rfl,hbB,y0,y1,y2⟩:=hRw.at_ hlt
    generalize bs[j].name=nm at y0
    clear hRw
    by_cases hnm:40<nm.size
    ·have hn1:decide ((nm.size:Int) > 40)=true:=decide_eq_true (by omega)
     have hn2:decide (40<(nm.size:Int))=true:=decide_eq_true (by omega)
     have hn3:decide (40<nm.size)=true:=decide_eq_true hnm
     go_wp2_with fail
     go_ret
     exact ⟨true,rfl,HB.out⟩
    ·have hn1:decide ((nm.size:Int) > 40)=false:=decide_eq_false (by omega)
     have hn2:decide (40<(nm.size:Int))=false:=decide_eq_false (by omega)
     have hn3:decide (40<nm.size)=false:=decide_eq_false hnm
     go_wp2_with fail
     exact ⟨⟨rfl,j+1,by go_num,by omega,by omega,HB⟩,by simp [intOf]; omega⟩
   ·have hs1:decide ((j:Int)<70)=false:=decide_eq_false (by omega)
    have hs2:decide (j<70)=false:=decide_eq_false h70
    go_wp2_with fail
    go_ret
    exact ⟨_,rfl,HB.out⟩
  ·have hd1:decide ((j:Int)<(bs.length:Int))=false:=decide_eq_false (by omega)
   have hd2:decide (j<bs.length)=false:=decide_eq_false hlt
   go_wp2_with fail
   go_ret
   exact ⟨_,rfl,HB.out⟩
set_option maxRecDepth 100000 in
set_option maxHeartbeats 3200000 in
theorem big1_any (task case_:Int) (bs:List Bd) (Ab:Option Addr) (cb Bb:Nat) (w:World) (hR:RdB w Bb Ab bs) (hBb:Bb≤w.heap.size) (hbl:bs.length≤9223372036854775807) :
  Calls Tryz.prog 6 #[.agg #[.int .i64 task,.int .i64 case_,.slice Ab bs.length cb]] w (AnyB w):=by
 have HG:=Lib.hid (fun (W:World) (hW:Below w.heap.size w W)=>gbind_any bs Ab cb Bb W (Rd.below' hR hW hBb) (Nat.le_trans hBb hW.size))
 have hO:=one_new w #[.int .i64 task,.int .i64 case_,.slice Ab bs.length cb] 32
 unfold AnyB at HG
 clear hR
 by_cases h20:20<bs.length
 ·have e1:decide ((bs.length:Int) > 20)=true:=decide_eq_true (by omega)
  have e2:decide (20<(bs.length:Int))=true:=decide_eq_true (by omega)
  have e3:decide (20<bs.length)=true:=decide_eq_true h20
  clear h20
  go_enter Tryz.func6,Tryz.ntmps6
  go_upto_region 1 with fail
  generalize w.alloc _=w1 at hO ⊢
  have x2:=hO.fst 2 _ rfl
  go_wp2_with fail
  go_ret
  unfold AnyB
  exact ⟨true,rfl,hO.below⟩
 ·have e1:decide ((bs.length:Int) > 20)=false:=decide_eq_false (by omega)
  have e2:decide (20<(bs.length:Int))=false:=decide_eq_false (by omega)
  have e3:decide (20<bs.length)=false:=decide_eq_false h20
  clear h20
  go_enter Tryz.func6,Tryz.ntmps6
  go_upto_region 1 with fail
  generalize w.alloc _=w1 at hO ⊢
  have x2:=hO.fst 2 _ rfl
  go_wp2_with fail
  refine (HG.out _ hO.below).mono ?_
  rintro e w2 ⟨v,rfl,hb2⟩
  have HB:=Lib.hid (hO.below.trans (hb2.mono hO.below.size))
  clear x2 hb2 hO
  go_wp2_with fail
  go_ret
  unfold AnyB
  exact ⟨v,rfl,HB.out⟩
set_option maxRecDepth 100000 in
set_option maxHeartbeats 3200000 in
theorem idxA_any (Al:Option Addr) (cl B:Nat) (ls:List At) (w:World) (hL:LiesA w B Al cl ls) (hB:B≤w.heap.size) :
  Calls Tryz.prog 13 #[.slice Al ls.length cl,.func (.func 6) #[] #[]] w (fun e W=>∃ k:Int,e=.returned (.int .i64 k)∧Below w.heap.size w W):=by
 have hll:=hL.len
 have HL:=Lib.hid hL
 have eg:∀ args w,(callFunc 6 args).run Tryz.prog w=.ok (.enter 6 args) w:=fun _ _=>rfl
 clear hL
 go_enter Tryz.func13,Tryz.ntmps13
 go_wp2_with fail
 go_loopw [4,8] (fun r i wr=>r=.int .i64 0∧∃ j:Nat,i=.int .i64 (j:Nat)∧j≤ls.length∧Hid (Below w.heap.size w wr)) (fun _ i _=>ls.length - (intOf i).toNat)
 case atStart=>exact ⟨rfl,0,rfl,Nat.zero_le _,Lib.hid (Below.refl _ _)⟩
 case round=>
  obtain ⟨rfl,j,rfl,hj,HB⟩:=hrel
  have hj0:(0:Int)≤(j:Int):=by omega
  by_cases hlt:j<ls.length
  ·have hd1:decide ((j:Int)<(ls.length:Int))=true:=decide_eq_true (by omega)
   have hd2:decide (j<ls.length)=true:=decide_eq_true hlt
   have hjl:(j:Int)<(ls.length:Int):=by omega
   have hwr1:IntKind.i64.wrap ((j:Int)+1)=(j:Int)+1:=by rw [IntKind.wrap_i64]; omega
   obtain ⟨hvl,bl,ofl,Av,cv,rfl,hbl,hrb,l0,l1,l2⟩:=(HL.out.below' HB.out hB).at_ j hlt
   have HQ:=Lib.hid (big1_any ls[j].task ls[j].case_ ls[j].vals Av cv B wr hrb (Nat.le_trans hB HB.out.size) hvl)
   unfold AnyB at HQ
   generalize ls[j].task=tj at l0 HQ
   generalize ls[j].case_=cj at l1 HQ
   generalize ls[j].vals.length=nj at l2 HQ
   clear hrb hvl
   go_wp2_with fail
   refine HQ.out.mono ?_
   rintro e W5 ⟨v,rfl,hb5⟩
   have HB5:=Lib.hid (HB.out.trans (hb5.mono HB.out.size))
   clear hb5 l0 l1 l2 HQ
   cases v with
   | true=>
    go_wp2_with fail
    go_ret
    exact ⟨_,rfl,HB5.out⟩
   | false=>
    go_wp2_with fail
    exact ⟨⟨rfl,j+1,by go_num,by omega,HB5⟩,by simp [intOf]; omega⟩
  ·have hd1:decide ((j:Int)<(ls.length:Int))=false:=decide_eq_false (by omega)
   have hd2:decide (j<ls.length)=false:=decide_eq_false hlt
   go_wp2_with fail
   go_ret
   exact ⟨_,rfl,HB.out⟩
set_option maxRecDepth 100000 in
set_option maxHeartbeats 3200000 in
theorem contA_any (Al:Option Addr) (cl B:Nat) (ls:List At) (w:World) (hL:LiesA w B Al cl ls) (hB:B≤w.heap.size) :
  Calls Tryz.prog 5 #[.slice Al ls.length cl,.func (.func 6) #[] #[]] w (AnyB w):=by
 have HI:=Lib.hid (idxA_any Al cl B ls w hL hB)
 clear hL
 go_enter Tryz.func5,Tryz.ntmps5
 go_wp2_with fail
 refine HI.out.mono ?_
 rintro e W5 ⟨k,rfl,hb5⟩
 have HB5:=Lib.hid hb5
 clear hb5 HI
 go_wp2_with fail
 go_ret
 unfold AnyB
 exact ⟨_,rfl,HB5.out⟩
end Go.Proofs.YtedpopbaipnamaaGreatDoor
