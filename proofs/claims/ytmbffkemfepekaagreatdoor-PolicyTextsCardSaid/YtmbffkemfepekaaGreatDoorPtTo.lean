/- The reference printer's in and text, walked. Conditions: the expression is valid and lies in memory. -/
import Derived.Test.YtmbffkemfepekaaGreatDoorPtAwk
import Derived.Test.YtmbffkemfepekaaGreatDoorPtBase
import Derived.WalkLawsBesides
import Derived.Lib.QuietBelow
import Derived.BigQuiet
import Derived.Test.YtmbffkemfepekaaGreatDoorPtOps
import Derived.Test.YtmbffkemfepekaaGreatDoorPtAwM
namespace Go.Proofs.YtmbffkemfepekaaGreatDoor
open Go.RowKit Go.Sort
def strT (l:List UInt8):ByteArray:=⟨l.toArray⟩
theorem strT_list (l:List UInt8):(strT l).data.toList=l:=by simp [strT]
theorem strT_size (l:List UInt8):(strT l).size=l.length:=by
 show l.toArray.size=_
 simp
theorem strT_of {b:ByteArray} {l:List UInt8} (h:b.data.toList=l):b=strT l:=by rw [← ba_list,strT_list,h]
theorem app_list (a b:ByteArray):(a++b).data.toList=a.data.toList++b.data.toList:=by simp [ByteArray.data_append]
set_option maxRecDepth 100000 in
set_option maxHeartbeats 6400000 in
theorem rin_of (k o:Int) (n:ByteArray) (v:Int) (A:Option Addr) (m c:Nat) (t:List UInt8) (ht:t.length≤5000) (lim:Nat) (w:World)
  (hT:∀ W,Below w.heap.size w W→Calls Tryz.prog 44 #[.agg #[.int .i64 k,.int .i64 o,.string n,.int .i64 v,.slice A m c]] W (Ret (.string (strT t)) W)) :
  Calls Tryz.prog 76 #[.agg #[.int .i64 k,.int .i64 o,.string n,.int .i64 v,.slice A m c],.int .i64 (lim:Nat)] w (Ret (.string (strT (parB lim (precK k o,t)))) w):=by
 have HT:=Lib.hid hT
 have HPR:=Lib.hid (fun W=>rprec_any k o n v A m c W)
 have hts:=strT_size t
 have htl:=strT_list t
 have HR:Hid (parB lim (precK k o,t)=if precK k o<lim then 40::(t++[41]) else t):=Lib.hid rfl
 generalize parB lim (precK k o,t)=R at HR ⊢
 generalize precK k o=p at HPR HR
 generalize strT t=tb at HT hts htl
 have HTL:=Lib.hid htl
 unfold Ret at HT HPR
 unfold Ret
 have hO:=one_new w #[.int .i64 k,.int .i64 o,.string n,.int .i64 v,.slice A m c] 38
 have b1:¬ 9223372036854775807<1+tb.size:=by omega
 have b2:¬ 9223372036854775807<1+tb.size+1:=by omega
 clear hT ht hts htl
 go_enter Tryz.func76,Tryz.ntmps76
 go_upto_region 1 with fail
 generalize w.alloc _=w1 at hO ⊢
 obtain ⟨q0,q1,q2,q3,q4⟩:=bx5 hO.fst
 go_wp2_with fail
 refine (HPR.out _).mono ?_
 rintro e w2 ⟨rfl,hb2⟩
 replace hO:=hO.next hb2
 clear q0 q1 q2 q3 q4 hb2
 obtain ⟨q0,q1,q2,q3,q4⟩:=bx5 hO.fst
 by_cases hp:p<lim
 ·have e1:decide ((p:Int)<(lim:Int))=true:=decide_eq_true (by omega)
  have e2:decide (p<lim)=true:=decide_eq_true hp
  have HV:Hid (⟨#[40]⟩++tb ++ ⟨#[41]⟩=strT R):=Lib.hid (strT_of (by rw [app_list,app_list,HTL.out,HR.out,if_pos hp]; rfl))
  clear hp
  go_wp2_with fail
  refine (HT.out _ hO.below).mono ?_
  rintro e w3 ⟨rfl,hb3⟩
  have HB3:=Lib.hid (hO.below.trans (hb3.mono hO.below.size))
  clear q0 q1 q2 q3 q4 hb3 hO
  go_wp2_with fail
  go_ret
  exact ⟨by rw [← HV.out]; rfl,HB3.out⟩
 ·have e1:decide ((p:Int)<(lim:Int))=false:=decide_eq_false (by omega)
  have e2:decide (p<lim)=false:=decide_eq_false hp
  have HV:Hid (tb=strT R):=Lib.hid (strT_of (by rw [HTL.out,HR.out,if_neg hp]))
  clear hp
  go_wp2_with fail
  refine (HT.out _ hO.below).mono ?_
  rintro e w3 ⟨rfl,hb3⟩
  have HB3:=Lib.hid (hO.below.trans (hb3.mono hO.below.size))
  clear q0 q1 q2 q3 q4 hb3 hO
  go_wp2_with fail
  go_ret
  exact ⟨by rw [← HV.out]; rfl,HB3.out⟩
def sg16:List (List UInt8):=[[],[],[],[43],[45],[42],[47],[37],[61,61],[33,61],[60],[60,61],[62],[62,61],[38,38],[124,124]]
def sg16V:List Value:=sg16.map fun g=>.string ⟨g.toArray⟩
theorem sg16_at (o:Int) (h:3≤o∧o≤15):sg16V[o.toNat]? = some (.string (strT (signO o))):=by
 rcases ops13 h with rfl | rfl | rfl | rfl | rfl | rfl | rfl | rfl | rfl | rfl | rfl | rfl | rfl <;> rfl
theorem sgo_len (o:Int):(signO o).length≤2:=by
 unfold signO
 repeat' split
 all_goals simp
theorem par_len (l:Nat) (w:Nat × List UInt8):(parB l w).length≤w.2.length+2:=by
 unfold parB
 split
 ·simp
 ·omega
def TxC (e:Ex):Prop:=nP e≤100→∀ (lo:Nat) (vs:List Value) (w:World),LiesE w lo vs e→lo≤w.heap.size→Calls Tryz.prog 44 #[.agg vs.toArray] w (Ret (.string (strT (wrE e))) w)
theorem wr_5000 {e:Ex} (h:Good e) (hn:nP e≤100):(wrE e).length≤5000:=by
 have h1:=wr_lenT e h
 omega
set_option maxRecDepth 100000 in
set_option maxHeartbeats 12800000 in
theorem text_num (x:Int) (hx:0≤x∧x≤1099511627776):TxC (exNum x):=by
 intro _ lo vs w hL hlo
 obtain ⟨A,cap,rfl,bd,-⟩:=hL.arg
 unfold exC Ret
 rw [wr_num]
 simp only [exNum,Ex.kind,Ex.op,Ex.name,Ex.val,Ex.args,List.length_nil]
 obtain ⟨N,rfl⟩:∃ N:Nat,x=N:=⟨x.toNat,by omega⟩
 rw [Int.toNat_natCast]
 have HD:=Lib.hid (fun W=>rdec_any N (by omega) W)
 change Hid (∀ W,Calls _ _ _ W (Ret (.string (strT (decL N))) W)) at HD
 generalize strT (decL N)=tb at HD ⊢
 unfold Ret at HD
 have hO:=one_new w #[.int .i64 1,.int .i64 0,.string ByteArray.empty,.int .i64 (N:Nat),.slice A 0 cap] 38
 go_enter Tryz.func44,Tryz.ntmps44
 go_upto_region 1 with fail
 generalize w.alloc _=w1 at hO ⊢
 obtain ⟨q0,q1,q2,q3,q4⟩:=bx5 hO.fst
 go_wp2_with fail
 refine (HD.out _).mono ?_
 rintro e w2 ⟨rfl,hb2⟩
 have HB:=Lib.hid (hO.below.trans (hb2.mono hO.below.size))
 clear q0 q1 q2 q3 q4 hb2 hO
 go_wp2_with fail
 go_ret
 exact ⟨rfl,HB.out⟩
set_option maxRecDepth 100000 in
set_option maxHeartbeats 12800000 in
theorem text_name (n:ByteArray):TxC (exName n):=by
 intro _ lo vs w hL hlo
 obtain ⟨A,cap,rfl,bd,-⟩:=hL.arg
 unfold exC Ret
 rw [wr_name]
 simp only [exName,Ex.kind,Ex.op,Ex.name,Ex.val,Ex.args,List.length_nil]
 rw [← strT_of (b:=n) rfl]
 have hO:=one_new w #[.int .i64 2,.int .i64 0,.string n,.int .i64 0,.slice A 0 cap] 38
 go_enter Tryz.func44,Tryz.ntmps44
 go_upto_region 1 with fail
 generalize w.alloc _=w1 at hO ⊢
 obtain ⟨q0,q1,q2,q3,q4⟩:=bx5 hO.fst
 go_wp2_with fail
 go_ret
 exact ⟨rfl,hO.below⟩
set_option maxRecDepth 100000 in
set_option maxHeartbeats 12800000 in
theorem text_un (op:Int) (a:Ex) (ho:op=1∨op=2) (ha:Good a) (ih:TxC a):TxC (exUn op a):=by
 intro hn lo vs w hL hlo
 obtain ⟨A,cap,rfl,bd,harg⟩:=hL.arg
 unfold exC Ret
 rw [wr_un]
 obtain ⟨b,off,k,o,n,v,A',m,c,rfl,hb,hL1,y0,y1,y2,y3,y4⟩:=harg 0 (by simp [exUn,Ex.args])
 simp only [exUn,Ex.kind,Ex.op,Ex.name,Ex.val,Ex.args,List.length_cons,List.length_nil,Nat.zero_mul,Nat.add_zero,Nat.zero_add,List.getElem_cons_zero] at y0 y1 y2 y3 y4 hL1 ⊢
 have hna:nP a≤100:=by simp only [exUn,nP,nPL] at hn; omega
 have h5:=wr_5000 ha hna
 have hpr:precE a=precK k o:=by
  obtain ⟨xs,rfl,-,-⟩:=hL1.inv
  rfl
 have HI:=Lib.hid (fun (W:World) (hW:Below w.heap.size w W)=>rin_of k o n v A' m c (wrE a) h5 6 W (fun W' hW'=>ih hna lo _ W' (hL1.below' (hW.trans (hW'.mono hW.size)) hlo) (Nat.le_trans hlo (hW.trans (hW'.mono hW.size)).size)))
 rw [← hpr] at HI
 have hpl:=par_len 6 (precE a,wrE a)
 generalize parB 6 (precE a,wrE a)=pl at HI hpl ⊢
 have hps:=strT_size pl
 have hpt:=Lib.hid (strT_list pl)
 generalize strT pl=pb at HI hps hpt
 unfold Ret at HI
 simp only at hpl
 have hbw:b<w.heap.size:=by omega
 have b1:¬ 9223372036854775807<1+pb.size:=by omega
 have HIw:=Lib.hid (fun (W:World) (hW:Below w.heap.size w W)=>HI.out W hW)
 clear harg hL hL1 hpr ih ha bd hps hpl h5 HI
 rcases ho with rfl | rfl
 ·obtain ⟨RS,hRS⟩:∃ RS,RS=strT ((if (1:Int)=2 then 33 else 45)::pl):=⟨_,rfl⟩
  rw [← hRS]
  have HV:Hid (⟨#[45]⟩++pb=RS):=Lib.hid (by rw [hRS]; exact strT_of (by rw [app_list,hpt.out]; rfl))
  clear hRS
  have hO:=one_new w #[.int .i64 3,.int .i64 1,.string ByteArray.empty,.int .i64 0,.slice (some ⟨b,off,none⟩) 1 cap] 38
  go_enter Tryz.func44,Tryz.ntmps44
  go_upto_region 1 with fail
  generalize w.alloc _=w1 at hO ⊢
  obtain ⟨q0,q1,q2,q3,q4⟩:=bx5 hO.fst
  have z0:=(hO.below.cell (p:=⟨b,off,none⟩) hbw).trans y0
  have z1:=(hO.below.cell (p:=⟨b,off+1,none⟩) hbw).trans y1
  have z2:=(hO.below.cell (p:=⟨b,off+2,none⟩) hbw).trans y2
  have z3:=(hO.below.cell (p:=⟨b,off+3,none⟩) hbw).trans y3
  have z4:=(hO.below.cell (p:=⟨b,off+4,none⟩) hbw).trans y4
  go_wp2_with fail
  refine (HIw.out _ hO.below).mono ?_
  rintro e w2 ⟨rfl,hb2⟩
  have HB:=Lib.hid (hO.below.trans (hb2.mono hO.below.size))
  clear q0 q1 q2 q3 q4 z0 z1 z2 z3 z4 hb2 hO
  go_wp2_with fail
  go_ret
  exact ⟨by rw [← HV.out]; rfl,HB.out⟩
 ·obtain ⟨RS,hRS⟩:∃ RS,RS=strT ((if (2:Int)=2 then 33 else 45)::pl):=⟨_,rfl⟩
  rw [← hRS]
  have HV:Hid (⟨#[33]⟩++pb=RS):=Lib.hid (by rw [hRS]; exact strT_of (by rw [app_list,hpt.out]; rfl))
  clear hRS
  have hO:=one_new w #[.int .i64 3,.int .i64 2,.string ByteArray.empty,.int .i64 0,.slice (some ⟨b,off,none⟩) 1 cap] 38
  go_enter Tryz.func44,Tryz.ntmps44
  go_upto_region 1 with fail
  generalize w.alloc _=w1 at hO ⊢
  obtain ⟨q0,q1,q2,q3,q4⟩:=bx5 hO.fst
  have z0:=(hO.below.cell (p:=⟨b,off,none⟩) hbw).trans y0
  have z1:=(hO.below.cell (p:=⟨b,off+1,none⟩) hbw).trans y1
  have z2:=(hO.below.cell (p:=⟨b,off+2,none⟩) hbw).trans y2
  have z3:=(hO.below.cell (p:=⟨b,off+3,none⟩) hbw).trans y3
  have z4:=(hO.below.cell (p:=⟨b,off+4,none⟩) hbw).trans y4
  go_wp2_with fail
  refine (HIw.out _ hO.below).mono ?_
  rintro e w2 ⟨rfl,hb2⟩
  have HB:=Lib.hid (hO.below.trans (hb2.mono hO.below.size))
  clear q0 q1 q2 q3 q4 z0 z1 z2 z3 z4 hb2 hO
  go_wp2_with fail
  go_ret
  exact ⟨by rw [← HV.out]; rfl,HB.out⟩
set_option maxRecDepth 100000 in
set_option maxHeartbeats 12800000 in
theorem text_bin (op:Int) (a a2:Ex) (ho:3≤op∧op≤15) (ha:Good a) (ha2:Good a2) (ih:TxC a) (ih2:TxC a2):TxC (exBin op a a2):=by
 intro hn lo vs w hL hlo
 obtain ⟨A,cap,rfl,bd,harg⟩:=hL.arg
 unfold exC Ret
 rw [wr_bin]
 obtain ⟨b,off,k,o,n,v,A',m,c,rfl,hb,hL1,y0,y1,y2,y3,y4⟩:=harg 0 (by simp [exBin,Ex.args])
 obtain ⟨b9,off9,k2,o2,n2,v2,A2,m2,c2,e9,-,hL2,x0,x1,x2,x3,x4⟩:=harg 1 (by simp [exBin,Ex.args])
 injection e9 with e9
 injection e9 with e91 e92
 subst e91 e92
 simp only [exBin,Ex.kind,Ex.op,Ex.name,Ex.val,Ex.args,List.length_cons,List.length_nil,Nat.zero_mul,Nat.one_mul,Nat.add_zero,Nat.zero_add,List.getElem_cons_zero,List.getElem_cons_succ] at y0 y1 y2 y3 y4 x0 x1 x2 x3 x4 hL1 hL2 ⊢
 have hna:nP a≤100:=by simp only [exBin,nP,nPL] at hn; omega
 have hna2:nP a2≤100:=by simp only [exBin,nP,nPL] at hn; omega
 have h5:=wr_5000 ha hna
 have h52:=wr_5000 ha2 hna2
 have hpr:precE a=precK k o:=by
  obtain ⟨xs,rfl,-,-⟩:=hL1.inv
  rfl
 have hpr2:precE a2=precK k2 o2:=by
  obtain ⟨xs,rfl,-,-⟩:=hL2.inv
  rfl
 obtain ⟨Q,hQ⟩:∃ Q,Q=precO op:=⟨_,rfl⟩
 obtain ⟨Q1,hQ1⟩:∃ Q1,Q1=precO op+1:=⟨_,rfl⟩
 obtain ⟨LP,hLP⟩:∃ LP,LP=leftP op:=⟨_,rfl⟩
 have hQ15:1≤Q∧Q≤5:=by
  rw [hQ]; unfold precO; repeat' split
  all_goals omega
 have hLQ:LP=if Q=3 then 4 else Q:=by rw [hLP,hQ]; rfl
 have HP4:=Lib.hid (fun (W:World)=>rprec_any 4 op ByteArray.empty 0 (some ⟨b,off,none⟩) 2 cap W)
 have h4:precK 4 op=Q:=by rw [hQ]; rfl
 rw [h4] at HP4
 have HI:=Lib.hid (fun (W:World) (hW:Below w.heap.size w W)=>rin_of k o n v A' m c (wrE a) h5 LP W (fun W' hW'=>ih hna lo _ W' (hL1.below' (hW.trans (hW'.mono hW.size)) hlo) (Nat.le_trans hlo (hW.trans (hW'.mono hW.size)).size)))
 have HI2:=Lib.hid (fun (W:World) (hW:Below w.heap.size w W)=>rin_of k2 o2 n2 v2 A2 m2 c2 (wrE a2) h52 Q1 W (fun W' hW'=>ih2 hna2 lo _ W' (hL2.below' (hW.trans (hW'.mono hW.size)) hlo) (Nat.le_trans hlo (hW.trans (hW'.mono hW.size)).size)))
 rw [← hpr] at HI
 rw [← hpr2] at HI2
 rw [← hQ1,← hLP]
 have hpl:=par_len LP (precE a,wrE a)
 have hpl2:=par_len Q1 (precE a2,wrE a2)
 generalize parB LP (precE a,wrE a)=pl at HI hpl ⊢
 generalize parB Q1 (precE a2,wrE a2)=pl2 at HI2 hpl2 ⊢
 have hps:=strT_size pl
 have hpt:=Lib.hid (strT_list pl)
 have hps2:=strT_size pl2
 have hpt2:=Lib.hid (strT_list pl2)
 generalize strT pl=pb at HI hps hpt
 generalize strT pl2=pb2 at HI2 hps2 hpt2
 have hsg:=sg16_at op ho
 have hss:=strT_size (signO op)
 have hst:=Lib.hid (strT_list (signO op))
 have hsl:=sgo_len op
 generalize signO op=so at hsg hss hst hsl ⊢
 generalize strT so=sb at hsg hss hst
 unfold Ret at HI HI2 HP4
 simp only at hpl hpl2
 have hbw:b<w.heap.size:=by omega
 have HV:Hid (pb ++ ⟨#[32]⟩++sb ++ ⟨#[32]⟩++pb2=strT (pl++32::(so++32::pl2))):=Lib.hid (strT_of (by rw [app_list,app_list,app_list,app_list,hpt.out,hpt2.out,hst.out]; simp))
 have b1:¬ 9223372036854775807<pb.size+1:=by omega
 have b2:¬ 9223372036854775807<pb.size+1+sb.size:=by omega
 have b3:¬ 9223372036854775807<pb.size+1+sb.size+1:=by omega
 have b4:¬ 9223372036854775807<pb.size+1+sb.size+1+pb2.size:=by omega
 have hwq:IntKind.i64.wrap ((Q:Int)+1)=(Q1:Int):=by rw [IntKind.wrap_i64]; omega
 obtain ⟨on,rfl⟩:∃ on:Nat,op=on:=⟨op.toNat,by omega⟩
 rw [Int.toNat_natCast] at hsg
 have on0:(0:Int)≤(on:Int):=by omega
 have on16:(on:Int)<16:=by omega
 have HQ:=Lib.hid hQ15
 have HLQ:=Lib.hid hLQ
 clear harg hL hL1 hL2 hpr hpr2 ih ih2 ha ha2 bd hps hps2 hpl hpl2 h5 h52 hQ hQ1 hLP hQ15 hLQ h4 hss hsl ho
 have hO:=one_new w #[.int .i64 4,.int .i64 (on:Nat),.string ByteArray.empty,.int .i64 0,.slice (some ⟨b,off,none⟩) 2 cap] 38
 go_enter Tryz.func44,Tryz.ntmps44
 go_upto_region 1 with fail
 generalize w.alloc _=w1 at hO ⊢
 obtain ⟨q0,q1,q2,q3,q4⟩:=bx5 hO.fst
 go_upto_region 12 with fail
 have hO2:One w1 (w1.alloc (.cells sg16V.toArray 9)) sg16V:=one_new w1 sg16V.toArray 9
 clear q0 q1 q2 q3 q4
 generalize hw2:w1.alloc _=w2
 have hO3:One w1 w2 sg16V:=by rw [← hw2]; exact hO2
 replace hO:=hO.next hO3.below
 clear hO2 hw2
 have hg1:w1.heap.size<w2.heap.size:=by have:=hO3.size; omega
 have s0:=hO3.fst on _ hsg
 generalize w1.heap.size=G at s0 hg1 ⊢
 obtain ⟨q0,q1,q2,q3,q4⟩:=bx5 hO.fst
 clear hO3 hsg
 go_wp2_with fail
 refine (HP4.out _).mono ?_
 rintro e wr ⟨rfl,hb2⟩
 replace hO:=hO.next hb2
 replace s0:=(hb2.cell (p:=⟨G,on,none⟩) hg1).trans s0
 clear q0 q1 q2 q3 q4 hb2 hg1
 go_upto_if 35 with fail
 go_cut [6] (fun lv wx=>lv=.int .i64 (LP:Nat)∧wx=wr)
 case first=>
  by_cases h3:Q=3
  ·have e1:((Q:Int) == 3)=true:=by simpa using (by omega:(Q:Int)=3)
   have HW:Hid (LP=4):=Lib.hid (by rw [HLQ.out,if_pos h3])
   have h3i:(Q:Int)=3:=by omega
   clear h3
   go_wp2_with fail
   go_meet
   case rel=>exact ⟨by rw [HW.out]; rfl,by first | rfl | exact True.intro⟩
  ·have e1:((Q:Int) == 3)=false:=by simpa using (by omega:¬ (Q:Int)=3)
   have HW:Hid (LP=Q):=Lib.hid (by rw [HLQ.out,if_neg h3])
   have h3i:¬ (Q:Int)=3:=by omega
   clear h3
   go_wp2_with fail
   go_meet
   case rel=>exact ⟨by rw [HW.out],by first | rfl | exact True.intro⟩
 case rest=>
  obtain ⟨rfl,hwc⟩:=hcut
  obtain rfl:=hwc.symm
  obtain ⟨q0,q1,q2,q3,q4⟩:=bx5 hO.fst
  have HBW:=Lib.hid hO.below
  have z0:=(HBW.out.cell (p:=⟨b,off,none⟩) hbw).trans y0
  have u0z:=(HBW.out.cell (p:=⟨b,off+5,none⟩) hbw).trans x0
  have z1:=(HBW.out.cell (p:=⟨b,off+1,none⟩) hbw).trans y1
  have u1z:=(HBW.out.cell (p:=⟨b,off+5+1,none⟩) hbw).trans x1
  have z2:=(HBW.out.cell (p:=⟨b,off+2,none⟩) hbw).trans y2
  have u2z:=(HBW.out.cell (p:=⟨b,off+5+2,none⟩) hbw).trans x2
  have z3:=(HBW.out.cell (p:=⟨b,off+3,none⟩) hbw).trans y3
  have u3z:=(HBW.out.cell (p:=⟨b,off+5+3,none⟩) hbw).trans x3
  have z4:=(HBW.out.cell (p:=⟨b,off+4,none⟩) hbw).trans y4
  have u4z:=(HBW.out.cell (p:=⟨b,off+5+4,none⟩) hbw).trans x4
  have g0:=fun d os=>cell_regrown (w:=wr) q0 d os
  have g1:=fun d os=>cell_regrown (w:=wr) q1 d os
  have g2:=fun d os=>cell_regrown (w:=wr) q2 d os
  have g3:=fun d os=>cell_regrown (w:=wr) q3 d os
  have g4:=fun d os=>cell_regrown (w:=wr) q4 d os
  have g5:=fun d os=>cell_regrown (w:=wr) z0 d os
  have g6:=fun d os=>cell_regrown (w:=wr) z1 d os
  have g7:=fun d os=>cell_regrown (w:=wr) z2 d os
  have g8:=fun d os=>cell_regrown (w:=wr) z3 d os
  have g9:=fun d os=>cell_regrown (w:=wr) z4 d os
  have g10:=fun d os=>cell_regrown (w:=wr) u0z d os
  have g11:=fun d os=>cell_regrown (w:=wr) u1z d os
  have g12:=fun d os=>cell_regrown (w:=wr) u2z d os
  have g13:=fun d os=>cell_regrown (w:=wr) u3z d os
  have g14:=fun d os=>cell_regrown (w:=wr) u4z d os
  have g15:=fun d os=>cell_regrown (w:=wr) s0 d os
  have HA:=Lib.hid (fun d os=>HI.out (grow (redrawn wr d) os) (HBW.out.trans ((below_regrown wr d os).mono HBW.out.size)))
  have HC:=Lib.hid (fun d os=>HI2.out (grow (redrawn wr d) os) (HBW.out.trans ((below_regrown wr d os).mono HBW.out.size)))
  go_upto_region 16 with fail
  refine wp_region_quiet_below (by kernel_rfl) (by kernel_rfl) ?_
  repeat (go_big_quiet_step (first | with_reducible exact Calls.regrown_of (HA.out _ _) | with_reducible exact Calls.regrown_of (HC.out _ _)))
  refine wpQuiet_nil ?_
  rintro _ ⟨pq,rfl⟩
  have hb9:=Lib.hid (HBW.out.trans ((below_regrown wr pq.d pq.os).mono HBW.out.size))
  generalize grow (redrawn wr pq.d) pq.os=w9 at hb9 ⊢
  clear q0 q1 q2 q3 q4 z0 z1 z2 z3 z4 u0z u1z u2z u3z u4z s0 g0 g1 g2 g3 g4 g5 g6 g7 g8 g9 g10 g11 g12 g13 g14 g15
  go_wp2_with fail
  go_ret
  exact ⟨by rw [← HV.out]; rfl,hb9.out⟩
theorem rtext_any:∀ e,Good e→TxC e:=
 good_ind text_num (fun n _=>text_name n) (fun o a h ha ih=>text_un o a h ha ih) (fun o a b h ha hb ia ib=>text_bin o a b h ha hb ia ib)
end Go.Proofs.YtmbffkemfepekaaGreatDoor

namespace Go.Proofs.YtmbffkemfepekaaGreatDoor
open Go.RowKit
theorem nmB_parts {s:ByteArray} (h:nmB s=true):1≤s.size∧s.size≤30∧∀ (j:Nat) (hj:j<s.size),inB s[j]=true∧(j=0→letB s[j]=true):=by
 have hl:s.data.toList.length=s.size:=by simp
 unfold nmB nmL at h
 rw [hl] at h
 simp only [Bool.and_eq_true,decide_eq_true_eq] at h
 obtain ⟨⟨⟨h1,h2⟩,h3⟩,h4⟩:=h
 refine ⟨h1,h2,fun j hj=>?_⟩
 have hg:=get_list s j hj
 refine ⟨List.all_eq_true.1 h4 _ (List.mem_of_getElem? hg),fun h0=>?_⟩
 subst h0
 cases e:s.data.toList with
 | nil=>rw [e] at hg; simp at hg
 | cons c r=>
  rw [e] at hg h3
  simp at hg h3
  rw [← hg]; exact h3
set_option maxRecDepth 100000 in
set_option maxHeartbeats 1600000 in
theorem rname_yes (s:ByteArray) (h:nmB s=true) (w:World):Calls Tryz.prog 149 #[.string s] w fun e W=>e=.returned (.bool true)∧W=w:=by
 obtain ⟨h1,h2,hc⟩:=nmB_parts h
 have HC:=Lib.hid hc
 have e0:s.toList.isEmpty=false:=by
  have:=str_nl (n:=s) (by omega:¬ s.size=0)
  simpa using this
 have e1:decide ((s.size:Int) > 30)=false:=decide_eq_false (by omega)
 have e2:decide (30<(s.size:Int))=false:=decide_eq_false (by omega)
 have e3:decide (30<s.size)=false:=decide_eq_false (by omega)
 clear hc h
 go_enter Tryz.func149,Tryz.ntmps149
 go_wp2_with fail
 go_loopw [3] (fun i wr=>wr=w∧∃ j:Nat,i=.int .i64 (j:Nat)∧j≤s.size) (fun i _=>s.size - (intOf i).toNat)
 case atStart=>exact ⟨rfl,0,rfl,Nat.zero_le _⟩
 case round=>
  obtain ⟨rfl,j,rfl,hj⟩:=hrel
  have hj0:(0:Int)≤(j:Int):=by omega
  by_cases hlt:j<s.size
  ·have hd1:decide ((j:Int)<(s.size:Int))=true:=decide_eq_true (by omega)
   have hd2:decide (j<s.size)=true:=decide_eq_true hlt
   have hjl:(j:Int)<(s.size:Int):=by omega
   have hwr1:IntKind.i64.wrap ((j:Int)+1)=(j:Int)+1:=by rw [IntKind.wrap_i64]; omega
   obtain ⟨g1,g2⟩:=HC.out j hlt
   have hlen:=hlt
   unfold inB letB digB at g1
   unfold letB at g2
   simp only [Bool.or_eq_true,Bool.and_eq_true,decide_eq_true_eq,beq_iff_eq] at g1 g2
   generalize hcd:(s[j]'hlt).toNat=c at g1 g2
   have hcd2:s[j]!.toNat=c:=by rw [getElem!_pos s j hlt]; exact hcd
   by_cases hle:97≤c∧c≤122
   ·have a1:decide ((c:Int) ≥ 97)=true:=decide_eq_true (by omega)
    have a2:decide (97≤(c:Int))=true:=decide_eq_true (by omega)
    have a3:decide (97≤c)=true:=decide_eq_true hle.1
    have a4:decide ((c:Int)≤122)=true:=decide_eq_true (by omega)
    have a5:decide (c≤122)=true:=decide_eq_true hle.2
    clear g1 g2
    go_wp2_with fail
    exact ⟨⟨trivial,j+1,by go_num,by omega⟩,by simp [intOf]; omega⟩
   ·have hj1:j≠0:=fun h=>hle (g2 h)
    have hc1:(48≤c∧c≤57)∨c=95:=by omega
    have a1:decide ((c:Int) ≥ 97)=false:=decide_eq_false (by omega)
    have a2:decide (97≤(c:Int))=false:=decide_eq_false (by omega)
    have a3:decide (97≤c)=false:=decide_eq_false (by omega)
    have b1:((j:Int) == 0)=false:=by simpa using hj1
    have b2:(j == 0)=false:=by simpa using hj1
    have b3:decide ((c:Int) ≥ 48)=true:=decide_eq_true (by omega)
    have b4:decide (48≤(c:Int))=true:=decide_eq_true (by omega)
    have b5:decide (48≤c)=true:=decide_eq_true (by omega)
    clear g1 g2
    rcases hc1 with hc1 | rfl
    ·have b6:decide ((c:Int)≤57)=true:=decide_eq_true (by omega)
     have b7:decide (c≤57)=true:=decide_eq_true hc1.2
     go_wp2_with fail
     exact ⟨⟨trivial,j+1,by go_num,by omega⟩,by simp [intOf]; omega⟩
    ·go_wp2_with fail
     exact ⟨⟨trivial,j+1,by go_num,by omega⟩,by simp [intOf]; omega⟩
  ·have hd1:decide ((j:Int)<(s.size:Int))=false:=decide_eq_false (by omega)
   have hd2:decide (j<s.size)=false:=decide_eq_false hlt
   go_wp2_with fail
   go_ret
   exact ⟨rfl,rfl⟩
end Go.Proofs.YtmbffkemfepekaaGreatDoor

namespace Go.Proofs.YtmbffkemfepekaaGreatDoor
open Go.RowKit
theorem szL_eq {zs:List Ex} (h:∀ a∈zs,∀ n,n+nP a≤100→szE a n=n+nP a):∀ n,n+nPL zs≤100→szL zs n=n+nPL zs:=by
 induction zs with
 | nil=>intro n hn; simp [szL,nPL]
 | cons a zs ih=>
  intro n hn
  simp only [nPL] at hn
  simp only [szL]
  rw [if_neg (by omega),h a (by simp) n (by omega),ih (fun b hb=>h b (by simp [hb])) _ (by omega)]
  simp only [nPL]; omega
theorem szE_eq:∀ (e:Ex) (n:Nat),n+nP e≤100→szE e n=n+nP e:=by
 intro e
 induction e using Ex.ind with
 | h k o nm v zs ih=>
  intro n hn
  simp only [nP] at hn
  simp only [szE]
  rw [szL_eq ih (n+1) (by omega)]
  simp only [nP]; omega
theorem sizeE_ok {e:Ex} (h:nP e≤100):sizeE e=nP e:=by
 unfold sizeE
 rw [szE_eq e 0 (by omega),Nat.zero_add,if_neg (by omega)]
set_option maxRecDepth 100000 in
set_option maxHeartbeats 3200000 in
theorem depth_any:∀ (e:Ex) (lo:Nat) (vs:List Value) (w:World),dP e≤100→LiesE w lo vs e→lo≤w.heap.size →
  Calls Tryz.prog 73 #[.agg vs.toArray] w (Ret (.int .i64 (dP e:Nat)) w):=by
 intro e
 induction e using Ex.ind with
 | h k o nm v xs ih=>
  intro lo vs w hd hL hlo
  obtain ⟨A,cap,rfl,bd,harg⟩:=hL.arg
  have hO:=one_new w #[.int .i64 k,.int .i64 o,.string nm,.int .i64 v,.slice A xs.length cap] 38
  have HARG:=Lib.hid harg
  have HIH:=Lib.hid (fun a ha=>ih a ha)
  have hbd:=bd.2.2.2.2.1
  simp only [Ex.kind,Ex.op,Ex.name,Ex.val,Ex.args] at HARG hbd ⊢
  have HR:Hid (dP (.mk k o nm v xs)=dPL xs+1):=Lib.hid (by simp [dP])
  have HD:Hid (dPL xs≤99):=Lib.hid (by have:=HR.out; omega)
  generalize dP (.mk k o nm v xs)=R at HR ⊢
  clear harg ih hL bd hd
  unfold exC Ret
  go_enter Tryz.func73,Tryz.ntmps73
  go_upto_region 1 with fail
  generalize w.alloc _=w1 at hO ⊢
  obtain ⟨x0,x1,x2,x3,x4⟩:=bx5 hO.fst
  go_wp2_with fail
  go_loopw [3,4] (fun n i wr=>∃ j:Nat,i=.int .i64 (j:Nat)∧n=.int .i64 (dPL (xs.take j):Nat)∧j≤xs.length∧Below w1.heap.size w1 wr) (fun _ i _=>xs.length - (intOf i).toNat)
  case atStart=>exact ⟨0,rfl,rfl,Nat.zero_le _,Below.refl _ _⟩
  case round=>
   clear x0 x1 x2 x3 x4
   obtain ⟨j,rfl,rfl,hj,hb⟩:=hrel
   have hj0:(0:Int)≤(j:Int):=by omega
   have hOr:=hO.next hb
   obtain ⟨x0,x1,x2,x3,x4⟩:=bx5 hOr.fst
   have HBW:=Lib.hid hOr.below
   have HB:=Lib.hid hb
   clear hOr hb
   by_cases hlt:j<xs.length
   ·have hd1:decide ((j:Int)<(xs.length:Int))=true:=decide_eq_true (by omega)
    have hwr1:IntKind.i64.wrap ((j:Int)+1)=(j:Int)+1:=by rw [IntKind.wrap_i64]; omega
    have hd2:decide (j<xs.length)=true:=decide_eq_true hlt
    have hjl:(j:Int)<(xs.length:Int):=by omega
    obtain ⟨b1,off,k1,o1,n1,v1,A1,m1,cap1,rfl,hb1,hL1,y0,y1,y2,y3,y4⟩:=HARG.out j hlt
    have z0:=(HBW.out.cell (p:=⟨b1,off+j * 5,none⟩) (by show b1<w.heap.size; omega)).trans y0
    have z1:=(HBW.out.cell (p:=⟨b1,off+j * 5+1,none⟩) (by show b1<w.heap.size; omega)).trans y1
    have z2:=(HBW.out.cell (p:=⟨b1,off+j * 5+2,none⟩) (by show b1<w.heap.size; omega)).trans y2
    have z3:=(HBW.out.cell (p:=⟨b1,off+j * 5+3,none⟩) (by show b1<w.heap.size; omega)).trans y3
    have z4:=(HBW.out.cell (p:=⟨b1,off+j * 5+4,none⟩) (by show b1<w.heap.size; omega)).trans y4
    have hm:=dP_le_mem (List.getElem_mem hlt)
    have hs:=HIH.out xs[j] (List.getElem_mem _) lo _ wr (by have:=HD.out; omega) (hL1.below' HBW.out hlo) (Nat.le_trans hlo HBW.out.size)
    unfold exC Ret at hs
    have HS:=Lib.hid hs
    have HT:=Lib.hid (dP_take xs j hlt)
    generalize dPL (xs.take j)=m at HT ⊢
    generalize dP xs[j]=q at HS HT
    clear hs hL1 y0 y1 y2 y3 y4 hm
    by_cases hqm:m<q
    ·have c1:decide ((q:Int) > (m:Int))=true:=decide_eq_true (by omega)
     have c2:decide ((m:Int)<(q:Int))=true:=decide_eq_true (by omega)
     have c3:decide (m<q)=true:=decide_eq_true hqm
     have HM:Hid (dPL (xs.take (j+1))=q):=Lib.hid (by rw [HT.out]; omega)
     clear hqm
     go_wp2_with fail
     refine HS.out.mono ?_
     rintro e w5 ⟨rfl,hb5⟩
     have HB5:=Lib.hid (HB.out.trans (hb5.mono HB.out.size))
     clear HS hb5 x0 x1 x2 x3 x4 z0 z1 z2 z3 z4
     go_wp2_with fail
     exact ⟨⟨j+1,by go_num,by rw [HM.out],by omega,HB5.out⟩,by simp [intOf]; omega⟩
    ·have c1:decide ((q:Int) > (m:Int))=false:=decide_eq_false (by omega)
     have c2:decide ((m:Int)<(q:Int))=false:=decide_eq_false (by omega)
     have c3:decide (m<q)=false:=decide_eq_false hqm
     have HM:Hid (dPL (xs.take (j+1))=m):=Lib.hid (by rw [HT.out]; omega)
     clear hqm
     go_wp2_with fail
     refine HS.out.mono ?_
     rintro e w5 ⟨rfl,hb5⟩
     have HB5:=Lib.hid (HB.out.trans (hb5.mono HB.out.size))
     clear HS hb5 x0 x1 x2 x3 x4 z0 z1 z2 z3 z4
     go_wp2_with fail
     exact ⟨⟨j+1,by go_num,by rw [HM.out],by omega,HB5.out⟩,by simp [intOf]; omega⟩
   ·have hd1:decide ((j:Int)<(xs.length:Int))=false:=decide_eq_false (by omega)
    have hd2:decide (j<xs.length)=false:=decide_eq_false hlt
    have HQ:Hid (dPL (xs.take j)=dPL xs):=Lib.hid (by rw [List.take_of_length_le (by omega)])
    rw [HQ.out]
    have HN:IntKind.i64.wrap ((dPL xs:Int)+1)=(R:Nat):=by rw [IntKind.wrap_i64]; have:=HD.out; have:=HR.out; omega
    clear HQ
    go_wp2_with fail
    go_ret
    exact ⟨rfl,HBW.out⟩
end Go.Proofs.YtmbffkemfepekaaGreatDoor

namespace Go.Proofs.YtmbffkemfepekaaGreatDoor
open Go.RowKit
set_option maxRecDepth 100000 in
set_option maxHeartbeats 3200000 in
theorem part_num (v:Int) (hv:0≤v∧v≤1099511627776) (A:Option Addr) (c:Nat) (w:World):Calls Tryz.prog 132 #[.agg #[.int .i64 1,.int .i64 0,.string ⟨#[]⟩,.int .i64 v,.slice A 0 c]] w (Ret (.int .i64 0) w):=by
 have hO:=one_new w #[.int .i64 1,.int .i64 0,.string ⟨#[]⟩,.int .i64 v,.slice A 0 c] 38
 have c1:decide (v<0)=false:=decide_eq_false (by omega)
 have c2:decide (v > 1099511627776)=false:=decide_eq_false (by omega)
 have c3:decide (1099511627776<v)=false:=decide_eq_false (by omega)
 unfold Ret
 go_enter Tryz.func132,Tryz.ntmps132
 go_upto_region 1 with fail
 generalize w.alloc _=w1 at hO ⊢
 obtain ⟨x0,x1,x2,x3,x4⟩:=bx5 hO.fst
 have HB:=Lib.hid hO.below
 clear hO
 go_upto_region 3 with fail
 go_quiet (fail)
 go_wp2_with fail
 go_ret
 exact ⟨rfl,HB.out.trans (below_drews _ _ _)⟩
set_option maxRecDepth 100000 in
set_option maxHeartbeats 3200000 in
theorem part_name (n:ByteArray) (hn:nmB n=true) (A:Option Addr) (c:Nat) (w:World):Calls Tryz.prog 132 #[.agg #[.int .i64 2,.int .i64 0,.string n,.int .i64 0,.slice A 0 c]] w (Ret (.int .i64 0) w):=by
 have hO:=one_new w #[.int .i64 2,.int .i64 0,.string n,.int .i64 0,.slice A 0 c] 38
 have HN:=Lib.hid (fun W=>rname_yes n hn W)
 clear hn
 unfold Ret
 go_enter Tryz.func132,Tryz.ntmps132
 go_upto_region 1 with fail
 generalize w.alloc _=w1 at hO ⊢
 obtain ⟨x0,x1,x2,x3,x4⟩:=bx5 hO.fst
 have HB:=Lib.hid hO.below
 clear hO
 go_upto_region 3 with fail
 go_quiet (fail)
 go_wp2_with (go_at_call 149; refine (HN.out _).mono ?_; rintro e W ⟨rfl,rfl⟩)
 go_ret
 exact ⟨rfl,HB.out.trans (below_drews _ _ _)⟩
set_option maxRecDepth 100000 in
set_option maxHeartbeats 3200000 in
theorem part_neg  (A:Option Addr) (c:Nat) (w:World):Calls Tryz.prog 132 #[.agg #[.int .i64 3,.int .i64 1,.string ⟨#[]⟩,.int .i64 0,.slice A 1 c]] w (Ret (.int .i64 0) w):=by
 have hO:=one_new w #[.int .i64 3,.int .i64 1,.string ⟨#[]⟩,.int .i64 0,.slice A 1 c] 38
 unfold Ret
 go_enter Tryz.func132,Tryz.ntmps132
 go_upto_region 1 with fail
 generalize w.alloc _=w1 at hO ⊢
 obtain ⟨x0,x1,x2,x3,x4⟩:=bx5 hO.fst
 have HB:=Lib.hid hO.below
 clear hO
 go_upto_region 3 with fail
 go_quiet (fail)
 go_wp2_with fail
 go_ret
 exact ⟨rfl,HB.out.trans (below_drews _ _ _)⟩
set_option maxRecDepth 100000 in
set_option maxHeartbeats 3200000 in
theorem part_not  (A:Option Addr) (c:Nat) (w:World):Calls Tryz.prog 132 #[.agg #[.int .i64 3,.int .i64 2,.string ⟨#[]⟩,.int .i64 0,.slice A 1 c]] w (Ret (.int .i64 0) w):=by
 have hO:=one_new w #[.int .i64 3,.int .i64 2,.string ⟨#[]⟩,.int .i64 0,.slice A 1 c] 38
 unfold Ret
 go_enter Tryz.func132,Tryz.ntmps132
 go_upto_region 1 with fail
 generalize w.alloc _=w1 at hO ⊢
 obtain ⟨x0,x1,x2,x3,x4⟩:=bx5 hO.fst
 have HB:=Lib.hid hO.below
 clear hO
 go_upto_region 3 with fail
 go_quiet (fail)
 go_wp2_with fail
 go_ret
 exact ⟨rfl,HB.out.trans (below_drews _ _ _)⟩
set_option maxRecDepth 100000 in
set_option maxHeartbeats 3200000 in
theorem part_bin (o:Int) (ho:3≤o∧o≤15) (A:Option Addr) (c:Nat) (w:World):Calls Tryz.prog 132 #[.agg #[.int .i64 4,.int .i64 o,.string ⟨#[]⟩,.int .i64 0,.slice A 2 c]] w (Ret (.int .i64 0) w):=by
 have hO:=one_new w #[.int .i64 4,.int .i64 o,.string ⟨#[]⟩,.int .i64 0,.slice A 2 c] 38
 have c1:decide (o<3)=false:=decide_eq_false (by omega)
 have c2:decide (o > 15)=false:=decide_eq_false (by omega)
 have c3:decide (15<o)=false:=decide_eq_false (by omega)
 unfold Ret
 go_enter Tryz.func132,Tryz.ntmps132
 go_upto_region 1 with fail
 generalize w.alloc _=w1 at hO ⊢
 obtain ⟨x0,x1,x2,x3,x4⟩:=bx5 hO.fst
 have HB:=Lib.hid hO.below
 clear hO
 go_upto_region 3 with fail
 go_quiet (fail)
 go_wp2_with fail
 go_ret
 exact ⟨rfl,HB.out.trans (below_drews _ _ _)⟩
theorem name_nil {n:ByteArray} (h:n.size=0):n=⟨#[]⟩:=by
 cases n with
 | mk d=>
  have:d=#[]:=Array.eq_empty_of_size_eq_zero h
  rw [this]
theorem part_any (e:Ex) (h:Part e) (A:Option Addr) (c:Nat) (w:World):Calls Tryz.prog 132 #[.agg (exC e.kind e.op e.name e.val A e.args.length c).toArray] w (Ret (.int .i64 0) w):=by
 obtain ⟨lo,hi,hval,hname,hop,hlen,hrange,hnm,hun,hbin⟩:=h
 generalize e.kind=k at *
 generalize e.op=o at *
 generalize e.name=n at *
 generalize e.val=v at *
 generalize e.args.length=m at *
 unfold exC
 have hk:k=1∨k=2∨k=3∨k=4:=by omega
 rcases hk with rfl | rfl | rfl | rfl
 ·obtain rfl:=hop (.inl rfl)
  obtain rfl:=name_nil (hname (by decide))
  obtain rfl:m=0:=hlen
  exact part_num v (hrange rfl) A c w
 ·obtain rfl:=hop (.inr rfl)
  obtain rfl:=hval (by decide)
  obtain rfl:m=0:=hlen
  exact part_name n (hnm rfl) A c w
 ·obtain rfl:=hval (by decide)
  obtain rfl:=name_nil (hname (by decide))
  obtain rfl:m=1:=hlen
  rcases hun rfl with rfl | rfl
  ·exact part_neg A c w
  ·exact part_not A c w
 ·obtain rfl:=hval (by decide)
  obtain rfl:=name_nil (hname (by decide))
  obtain rfl:m=2:=hlen
  exact part_bin o (hbin rfl) A c w
set_option maxRecDepth 100000 in
set_option maxHeartbeats 3200000 in
theorem rparts_any:∀ (e:Ex) (lo:Nat) (vs:List Value) (w:World),Good e→LiesE w lo vs e→lo≤w.heap.size →
  Calls Tryz.prog 74 #[.agg vs.toArray] w (Ret (.int .i64 0) w):=by
 intro e
 induction e using Ex.ind with
 | h k o nm v xs ih=>
  intro lo vs w hg hL hlo
  obtain ⟨A,cap,rfl,bd,harg⟩:=hL.arg
  have hO:=one_new w #[.int .i64 k,.int .i64 o,.string nm,.int .i64 v,.slice A xs.length cap] 38
  have HARG:=Lib.hid harg
  have HIH:=Lib.hid (fun a ha=>ih a ha)
  have HG:=Lib.hid (fun a ha=>hg.arg (a:=a) ha)
  have HPT:=Lib.hid (fun W=>part_any (.mk k o nm v xs) (part_of hg.self) A cap W)
  have hbd:=bd.2.2.2.2.1
  simp only [Ex.kind,Ex.op,Ex.name,Ex.val,Ex.args] at HARG HPT hbd ⊢
  clear harg ih hL bd hg
  unfold exC Ret at HPT
  unfold exC Ret
  go_enter Tryz.func74,Tryz.ntmps74
  go_upto_region 1 with fail
  generalize w.alloc _=w1 at hO ⊢
  obtain ⟨x0,x1,x2,x3,x4⟩:=bx5 hO.fst
  go_wp2_with fail
  refine (HPT.out _).mono ?_
  rintro e w2 ⟨rfl,hb2⟩
  clear x0 x1 x2 x3 x4 HPT
  replace hO:=hO.next hb2
  clear hb2
  go_wp2_with fail
  go_loopw [2,4] (fun r i wr=>r=.int .i64 0∧∃ j:Nat,i=.int .i64 (j:Nat)∧j≤xs.length∧Below w2.heap.size w2 wr) (fun _ i _=>xs.length - (intOf i).toNat)
  case atStart=>exact ⟨rfl,0,rfl,Nat.zero_le _,Below.refl _ _⟩
  case round=>
   obtain ⟨rfl,j,rfl,hj,hb⟩:=hrel
   have hj0:(0:Int)≤(j:Int):=by omega
   have hOr:=hO.next hb
   obtain ⟨x0,x1,x2,x3,x4⟩:=bx5 hOr.fst
   have HBW:=Lib.hid hOr.below
   have HB:=Lib.hid hb
   clear hOr hb
   by_cases hlt:j<xs.length
   ·have hd1:decide ((j:Int)<(xs.length:Int))=true:=decide_eq_true (by omega)
    have hwr1:IntKind.i64.wrap ((j:Int)+1)=(j:Int)+1:=by rw [IntKind.wrap_i64]; omega
    have hd2:decide (j<xs.length)=true:=decide_eq_true hlt
    have hjl:(j:Int)<(xs.length:Int):=by omega
    obtain ⟨b1,off,k1,o1,n1,v1,A1,m1,cap1,rfl,hb1,hL1,y0,y1,y2,y3,y4⟩:=HARG.out j hlt
    have z0:=(HBW.out.cell (p:=⟨b1,off+j * 5,none⟩) (by show b1<w.heap.size; omega)).trans y0
    have z1:=(HBW.out.cell (p:=⟨b1,off+j * 5+1,none⟩) (by show b1<w.heap.size; omega)).trans y1
    have z2:=(HBW.out.cell (p:=⟨b1,off+j * 5+2,none⟩) (by show b1<w.heap.size; omega)).trans y2
    have z3:=(HBW.out.cell (p:=⟨b1,off+j * 5+3,none⟩) (by show b1<w.heap.size; omega)).trans y3
    have z4:=(HBW.out.cell (p:=⟨b1,off+j * 5+4,none⟩) (by show b1<w.heap.size; omega)).trans y4
    have hs:=HIH.out xs[j] (List.getElem_mem _) lo _ wr (HG.out _ (List.getElem_mem _)) (hL1.below' HBW.out hlo) (Nat.le_trans hlo HBW.out.size)
    unfold exC Ret at hs
    have HS:=Lib.hid hs
    clear hs hL1 y0 y1 y2 y3 y4
    go_wp2_with fail
    refine HS.out.mono ?_
    rintro e w5 ⟨rfl,hb5⟩
    have HB5:=Lib.hid (HB.out.trans (hb5.mono HB.out.size))
    clear HS hb5 x0 x1 x2 x3 x4 z0 z1 z2 z3 z4
    go_wp2_with fail
    exact ⟨⟨rfl,j+1,by go_num,by omega,HB5.out⟩,by simp [intOf]; omega⟩
   ·have hd1:decide ((j:Int)<(xs.length:Int))=false:=decide_eq_false (by omega)
    have hd2:decide (j<xs.length)=false:=decide_eq_false hlt
    go_wp2_with fail
    go_ret
    exact ⟨rfl,HBW.out⟩
set_option maxRecDepth 100000 in
set_option maxHeartbeats 3200000 in
theorem rcheck_any (e:Ex) (h:chkE e=0) (lo:Nat) (vs:List Value) (w:World) (hL:LiesE w lo vs e) (hlo:lo≤w.heap.size) :
  Calls Tryz.prog 43 #[.agg vs.toArray] w (Ret (.int .i64 0) w):=by
 obtain ⟨hg,hn,hd⟩:=good_of e h
 have HSZ:=Lib.hid (fun (W:World) (hb:Below w.heap.size w W)=>sizeE_any e lo vs W (hL.below' hb hlo) (Nat.le_trans hlo hb.size))
 have HDP:=Lib.hid (fun (W:World) (hb:Below w.heap.size w W)=>depth_any e lo vs W (by omega) (hL.below' hb hlo) (Nat.le_trans hlo hb.size))
 have HPT:=Lib.hid (fun (W:World) (hb:Below w.heap.size w W)=>rparts_any e lo vs W hg (hL.below' hb hlo) (Nat.le_trans hlo hb.size))
 rw [sizeE_ok hn] at HSZ
 obtain ⟨A,cap,rfl,bd,-⟩:=hL.arg
 have hO:=one_new w #[.int .i64 e.kind,.int .i64 e.op,.string e.name,.int .i64 e.val,.slice A e.args.length cap] 38
 unfold exC Ret at HSZ HDP HPT
 unfold exC Ret
 generalize nP e=p at HSZ hn
 generalize dP e=d at HDP hd
 generalize e.kind=k at *
 generalize e.op=o at *
 generalize e.name=n at *
 generalize e.val=v at *
 generalize e.args.length=m at *
 have c1:decide ((p:Int) > 100)=false:=decide_eq_false (by omega)
 have c2:decide (100<(p:Int))=false:=decide_eq_false (by omega)
 have c3:decide (100<p)=false:=decide_eq_false (by omega)
 have c4:decide ((d:Int) > 12)=false:=decide_eq_false (by omega)
 have c5:decide (12<(d:Int))=false:=decide_eq_false (by omega)
 have c6:decide (12<d)=false:=decide_eq_false (by omega)
 clear hL bd hg h
 go_enter Tryz.func43,Tryz.ntmps43
 go_upto_region 1 with fail
 generalize w.alloc _=w1 at hO ⊢
 obtain ⟨x0,x1,x2,x3,x4⟩:=bx5 hO.fst
 go_wp2_with fail
 refine (HSZ.out _ hO.below).mono ?_
 rintro e2 w2 ⟨rfl,hb2⟩
 clear x0 x1 x2 x3 x4
 replace hO:=hO.next hb2
 obtain ⟨x0,x1,x2,x3,x4⟩:=bx5 hO.fst
 clear hb2
 go_wp2_with fail
 refine (HDP.out _ hO.below).mono ?_
 rintro e3 w3 ⟨rfl,hb3⟩
 clear x0 x1 x2 x3 x4
 replace hO:=hO.next hb3
 obtain ⟨x0,x1,x2,x3,x4⟩:=bx5 hO.fst
 clear hb3
 go_wp2_with fail
 refine (HPT.out _ hO.below).mono ?_
 rintro e4 w4 ⟨rfl,hb4⟩
 have HB:=Lib.hid (hO.below.trans (hb4.mono hO.below.size))
 go_wp2_with fail
 go_ret
 exact ⟨rfl,HB.out⟩
end Go.Proofs.YtmbffkemfepekaaGreatDoor
