/- nurseryref09.same and Equal, nurseryref55.Same: what reads alike is the same. Conditions: the expressions are valid and lie in memory. -/
import Derived.Test.YtmbffkemfepekaaGreatDoorPtTo
import Derived.Deep.RegionHeld3
import Derived.Test.YtmbffkemfepekaaGreatDoorPtRfb
import Derived.Test.YtmbffkemfepekaaGreatDoorPtTf
import Derived.Test.YtmbffkemfepekaaGreatDoorPtAwk
import Derived.Lib.QuietBelow
namespace Go.Proofs.YtmbffkemfepekaaGreatDoor
open Go.RowKit
set_option maxRecDepth 100000 in
set_option maxHeartbeats 6400000 in
theorem same_any:∀ (e:Ex) (lo:Nat) (vs us:List Value) (w:World),LiesE w lo vs e→LiesE w lo us e→lo≤w.heap.size →
  Calls Tryz.prog 59 #[.agg vs.toArray,.agg us.toArray] w (Ret (.bool true) w):=by
 intro e
 induction e using Ex.ind with
 | h k o nm v xs ih=>
  intro lo vs us w hL hM hlo
  obtain ⟨A,cap,rfl,bd,harg⟩:=hL.arg
  obtain ⟨A',cap',rfl,bd',harg'⟩:=hM.arg
  have hO:=two_new w #[.int .i64 k,.int .i64 o,.string nm,.int .i64 v,.slice A xs.length cap] #[.int .i64 k,.int .i64 o,.string nm,.int .i64 v,.slice A' xs.length cap'] 38 38
  have HARG:=Lib.hid harg
  have HARG':=Lib.hid harg'
  have HIH:=Lib.hid (fun a ha=>ih a ha)
  have hbd:=bd.2.2.2.2.1
  simp only [Ex.kind,Ex.op,Ex.name,Ex.val,Ex.args] at HARG HARG' hbd ⊢
  clear harg harg' ih hL hM bd bd'
  unfold exC Ret
  go_enter Tryz.func59,Tryz.ntmps59
  go_upto_region 1 with fail
  have hz1:(w.alloc (.cells #[.int .i64 k,.int .i64 o,.string nm,.int .i64 v,.slice A xs.length cap] 38)).heap.size=w.heap.size+1:=by simp
  generalize (w.alloc _).alloc _=w1 at hO ⊢
  obtain ⟨x0,x1,x2,x3,x4⟩:=bx5 hO.fst
  obtain ⟨q0,q1,q2,q3,q4⟩:=bx5 hO.snd
  go_wp2_with fail
  go_loopw [4,5] (fun r i wr=>r=.bool false∧∃ j:Nat,i=.int .i64 (j:Nat)∧j≤xs.length∧Below w1.heap.size w1 wr) (fun _ i _=>xs.length - (intOf i).toNat)
  case atStart=>exact ⟨rfl,0,rfl,Nat.zero_le _,Below.refl _ _⟩
  case round=>
   clear x0 x1 x2 x3 x4 q0 q1 q2 q3 q4
   obtain ⟨rfl,j,rfl,hj,hb⟩:=hrel
   have hj0:(0:Int)≤(j:Int):=by omega
   have hOr:=hO.next hb
   obtain ⟨x0,x1,x2,x3,x4⟩:=bx5 hOr.fst
   obtain ⟨q0,q1,q2,q3,q4⟩:=bx5 hOr.snd
   have HOR:=Lib.hid hOr
   have HBW:=Lib.hid hOr.below
   have HB:=Lib.hid hb
   clear hOr hb
   by_cases hlt:j<xs.length
   ·have hd1:decide ((j:Int)<(xs.length:Int))=true:=decide_eq_true (by omega)
    have hwr1:IntKind.i64.wrap ((j:Int)+1)=(j:Int)+1:=by rw [IntKind.wrap_i64]; omega
    have hd2:decide (j<xs.length)=true:=decide_eq_true hlt
    have hjl:(j:Int)<(xs.length:Int):=by omega
    obtain ⟨b1,off,k1,o1,n1,v1,A1,m1,cap1,rfl,hb1,hL1,y0,y1,y2,y3,y4⟩:=HARG.out j hlt
    obtain ⟨b2,off2,k2,o2,n2,v2,A2,m2,cap2,rfl,hb2,hL2,y0',y1',y2',y3',y4'⟩:=HARG'.out j hlt
    have HC:Hid (∀ W,Below wr.heap.size wr W→W.cell? ⟨w.heap.size,4,none⟩=some (.slice (some ⟨b1,off,none⟩) xs.length cap)∧W.cell? ⟨w.heap.size+1,4,none⟩=some (.slice (some ⟨b2,off2,none⟩) xs.length cap') ∧
     (W.cell? ⟨b1,off+j * 5,none⟩=some (.int .i64 k1)∧W.cell? ⟨b1,off+j * 5+1,none⟩=some (.int .i64 o1)∧W.cell? ⟨b1,off+j * 5+2,none⟩=some (.string n1)∧W.cell? ⟨b1,off+j * 5+3,none⟩=some (.int .i64 v1)∧W.cell? ⟨b1,off+j * 5+4,none⟩=some (.slice A1 m1 cap1)) ∧
     (W.cell? ⟨b2,off2+j * 5,none⟩=some (.int .i64 k2)∧W.cell? ⟨b2,off2+j * 5+1,none⟩=some (.int .i64 o2)∧W.cell? ⟨b2,off2+j * 5+2,none⟩=some (.string n2)∧W.cell? ⟨b2,off2+j * 5+3,none⟩=some (.int .i64 v2)∧W.cell? ⟨b2,off2+j * 5+4,none⟩=some (.slice A2 m2 cap2))):=Lib.hid (fun W hW=>by
     have h1:=HBW.out.trans (hW.mono HBW.out.size)
     have h2:=HOR.out.next hW
     exact ⟨h2.fst 4 _ rfl,h2.snd 4 _ rfl,
      ⟨(h1.cell (p:=⟨b1,off+j * 5,none⟩) (by show b1<w.heap.size; omega)).trans y0,(h1.cell (p:=⟨b1,off+j * 5+1,none⟩) (by show b1<w.heap.size; omega)).trans y1,(h1.cell (p:=⟨b1,off+j * 5+2,none⟩) (by show b1<w.heap.size; omega)).trans y2,(h1.cell (p:=⟨b1,off+j * 5+3,none⟩) (by show b1<w.heap.size; omega)).trans y3,(h1.cell (p:=⟨b1,off+j * 5+4,none⟩) (by show b1<w.heap.size; omega)).trans y4⟩,
      ⟨(h1.cell (p:=⟨b2,off2+j * 5,none⟩) (by show b2<w.heap.size; omega)).trans y0',(h1.cell (p:=⟨b2,off2+j * 5+1,none⟩) (by show b2<w.heap.size; omega)).trans y1',(h1.cell (p:=⟨b2,off2+j * 5+2,none⟩) (by show b2<w.heap.size; omega)).trans y2',(h1.cell (p:=⟨b2,off2+j * 5+3,none⟩) (by show b2<w.heap.size; omega)).trans y3',(h1.cell (p:=⟨b2,off2+j * 5+4,none⟩) (by show b2<w.heap.size; omega)).trans y4'⟩⟩)
    have hs:=fun (W:World) (hW:Below wr.heap.size wr W)=>HIH.out xs[j] (List.getElem_mem _) lo _ _ W ((hL1.below' HBW.out hlo).below' hW (Nat.le_trans hlo HBW.out.size)) ((hL2.below' HBW.out hlo).below' hW (Nat.le_trans hlo HBW.out.size)) (Nat.le_trans (Nat.le_trans hlo HBW.out.size) hW.size)
    unfold exC Ret at hs
    have HS:=Lib.hid hs
    clear hs hL1 hL2 y0 y1 y2 y3 y4 y0' y1' y2' y3' y4'
    go_upto_region 6 with fail
    go_cut [59] (fun r wx=>r=.bool false∧Below wr.heap.size wr wx)
    case first=>
     have hB:Below wr.heap.size wr wr.drew:=below_drews _ _ 1
     go_region_held3 (fun W=>W.cell? ⟨w.heap.size,4,none⟩=some (.slice (some ⟨b1,off,none⟩) xs.length cap)∧W.cell? ⟨w.heap.size+1,4,none⟩=some (.slice (some ⟨b2,off2,none⟩) xs.length cap') ∧
      (W.cell? ⟨b1,off+j * 5,none⟩=some (.int .i64 k1)∧W.cell? ⟨b1,off+j * 5+1,none⟩=some (.int .i64 o1)∧W.cell? ⟨b1,off+j * 5+2,none⟩=some (.string n1)∧W.cell? ⟨b1,off+j * 5+3,none⟩=some (.int .i64 v1)∧W.cell? ⟨b1,off+j * 5+4,none⟩=some (.slice A1 m1 cap1)) ∧
      (W.cell? ⟨b2,off2+j * 5,none⟩=some (.int .i64 k2)∧W.cell? ⟨b2,off2+j * 5+1,none⟩=some (.int .i64 o2)∧W.cell? ⟨b2,off2+j * 5+2,none⟩=some (.string n2)∧W.cell? ⟨b2,off2+j * 5+3,none⟩=some (.int .i64 v2)∧W.cell? ⟨b2,off2+j * 5+4,none⟩=some (.slice A2 m2 cap2)))
      (first | exact HC.out _ hB | exact HC.out _ (below_drews _ _ 1))
      (first
      | (go_at_call 59; refine (HS.out _ hB).mono ?_; rintro e W ⟨rfl,hb5⟩; replace hB:=hB.trans (hb5.mono hB.size)))
     go_wp2_with fail
     go_meet
     exact ⟨rfl,hB⟩
    case rest=>
     obtain ⟨rfl,hbx⟩:=hcut
     have HB5:=Lib.hid (HB.out.trans (hbx.mono HB.out.size))
     clear HS HC hbx x0 x1 x2 x3 x4 q0 q1 q2 q3 q4
     go_wp2_with fail
     exact ⟨⟨rfl,j+1,by go_num,by omega,HB5.out⟩,by simp [intOf]; omega⟩
   ·have hd1:decide ((j:Int)<(xs.length:Int))=false:=decide_eq_false (by omega)
    have hd2:decide (j<xs.length)=false:=decide_eq_false hlt
    go_wp2_with fail
    go_ret
    exact ⟨rfl,HBW.out⟩
set_option maxRecDepth 100000 in
set_option maxHeartbeats 3200000 in
theorem requal_any (e:Ex) (hc:chkE e=0) (lo:Nat) (vs us:List Value) (w:World) (hL:LiesE w lo vs e) (hM:LiesE w lo us e) (hlo:lo≤w.heap.size) :
  Calls Tryz.prog 30 #[.agg vs.toArray,.agg us.toArray] w (Ret (.bool true) w):=by
 have HC1:=Lib.hid (fun (W:World) (hb:Below w.heap.size w W)=>rcheck_any e hc lo vs W (hL.below' hb hlo) (Nat.le_trans hlo hb.size))
 have HC2:=Lib.hid (fun (W:World) (hb:Below w.heap.size w W)=>rcheck_any e hc lo us W (hM.below' hb hlo) (Nat.le_trans hlo hb.size))
 have HS:=Lib.hid (fun (W:World) (hb:Below w.heap.size w W)=>same_any e lo vs us W (hL.below' hb hlo) (hM.below' hb hlo) (Nat.le_trans hlo hb.size))
 obtain ⟨A,cap,rfl,bd,-⟩:=hL.arg
 obtain ⟨A',cap',rfl,bd',-⟩:=hM.arg
 have hO:=two_new w #[.int .i64 e.kind,.int .i64 e.op,.string e.name,.int .i64 e.val,.slice A e.args.length cap] #[.int .i64 e.kind,.int .i64 e.op,.string e.name,.int .i64 e.val,.slice A' e.args.length cap'] 38 38
 unfold exC Ret at HC1 HC2 HS
 unfold exC Ret
 generalize e.kind=k at *
 generalize e.op=o at *
 generalize e.name=n at *
 generalize e.val=v at *
 generalize e.args.length=m at *
 clear hL hM bd bd' hc
 go_enter Tryz.func30,Tryz.ntmps30
 go_upto_region 1 with fail
 generalize (w.alloc _).alloc _=w1 at hO ⊢
 obtain ⟨x0,x1,x2,x3,x4⟩:=bx5 hO.fst
 obtain ⟨q0,q1,q2,q3,q4⟩:=bx5 hO.snd
 go_wp2_with fail
 refine (HC1.out _ hO.below).mono ?_
 rintro e2 w2 ⟨rfl,hb2⟩
 clear x0 x1 x2 x3 x4 q0 q1 q2 q3 q4
 replace hO:=hO.next hb2
 obtain ⟨x0,x1,x2,x3,x4⟩:=bx5 hO.fst
 obtain ⟨q0,q1,q2,q3,q4⟩:=bx5 hO.snd
 clear hb2
 go_wp2_with fail
 refine (HC2.out _ hO.below).mono ?_
 rintro e3 w3 ⟨rfl,hb3⟩
 clear x0 x1 x2 x3 x4 q0 q1 q2 q3 q4
 replace hO:=hO.next hb3
 obtain ⟨x0,x1,x2,x3,x4⟩:=bx5 hO.fst
 obtain ⟨q0,q1,q2,q3,q4⟩:=bx5 hO.snd
 clear hb3
 go_wp2_with fail
 refine (HS.out _ hO.below).mono ?_
 rintro e4 w4 ⟨rfl,hb4⟩
 have HB:=Lib.hid (hO.below.trans (hb4.mono hO.below.size))
 go_wp2_with fail
 go_ret
 exact ⟨rfl,HB.out⟩
set_option maxRecDepth 100000 in
set_option maxHeartbeats 12800000 in
theorem rsame_any (A A':Option Addr) (c c' B:Nat) (rs:List Rl) (w:World) (hP:LiesP w B A c rs) (hP':LiesP w B A' c' rs) (hB:B≤w.heap.size) (hv:∀ r∈rs,chkE r.cond=0∧chkE r.key=0) :
  Calls Tryz.prog 12 #[.agg #[.slice A rs.length c],.agg #[.slice A' rs.length c']] w (Ret (.bool true) w):=by
 have hl:=hP.len
 have HP:=Lib.hid hP
 have HP':=Lib.hid hP'
 have HVV:=Lib.hid hv
 have hO:=two_new w #[.slice A rs.length c] #[.slice A' rs.length c'] 24 24
 unfold Ret
 clear hP hP' hv
 go_enter Tryz.func12,Tryz.ntmps12
 go_upto_region 1 with fail
 generalize (w.alloc _).alloc _=w1 at hO ⊢
 have x0:=hO.fst 0 _ rfl
 have q0:=hO.snd 0 _ rfl
 go_wp2_with fail
 go_loopw [4,5] (fun r i wr=>r=.bool false∧∃ j:Nat,i=.int .i64 (j:Nat)∧j≤rs.length∧Below w1.heap.size w1 wr) (fun _ i _=>rs.length - (intOf i).toNat)
 case atStart=>exact ⟨rfl,0,rfl,Nat.zero_le _,Below.refl _ _⟩
 case round=>
  clear x0 q0
  obtain ⟨rfl,j,rfl,hj,hb⟩:=hrel
  have hj0:(0:Int)≤(j:Int):=by omega
  have hOr:=hO.next hb
  have x0:=hOr.fst 0 _ rfl
  have q0:=hOr.snd 0 _ rfl
  have HOR:=Lib.hid hOr
  have HBW:=Lib.hid hOr.below
  have HB:=Lib.hid hb
  clear hOr hb
  by_cases hlt:j<rs.length
  ·have hd1:decide ((j:Int)<(rs.length:Int))=true:=decide_eq_true (by omega)
   have hwr1:IntKind.i64.wrap ((j:Int)+1)=(j:Int)+1:=by rw [IntKind.wrap_i64]; omega
   have hd2:decide (j<rs.length)=true:=decide_eq_true hlt
   have hjl:(j:Int)<(rs.length:Int):=by omega
   obtain ⟨b1,off,k1,o1,n1,v1,A1,m1,cap1,k2,o2,n2,v2,A2,m2,cap2,rfl,hb1,hL1,hL2,y0,y1,y2,y3,y4,y5,y6,y7,y8,y9⟩:=HP.out.at_ j hlt
   obtain ⟨b2,off2,k3,o3,n3,v3,A3,m3,cap3,k4,o4,n4,v4,A4,m4,cap4,rfl,hb2,hL3,hL4,z0,z1,z2,z3,z4,z5,z6,z7,z8,z9⟩:=HP'.out.at_ j hlt
   have HC:Hid (∀ W,Below wr.heap.size wr W→W.cell? ⟨w.heap.size,0,none⟩=some (.slice (some ⟨b1,off,none⟩) rs.length c)∧W.cell? ⟨w.heap.size+1,0,none⟩=some (.slice (some ⟨b2,off2,none⟩) rs.length c') ∧
      (W.cell? ⟨b1,off+j * 10,none⟩=some (.int .i64 k1)∧W.cell? ⟨b1,off+j * 10+1,none⟩=some (.int .i64 o1)∧W.cell? ⟨b1,off+j * 10+2,none⟩=some (.string n1)∧W.cell? ⟨b1,off+j * 10+3,none⟩=some (.int .i64 v1)∧W.cell? ⟨b1,off+j * 10+4,none⟩=some (.slice A1 m1 cap1)) ∧
      (W.cell? ⟨b1,off+j * 10+5,none⟩=some (.int .i64 k2)∧W.cell? ⟨b1,off+j * 10+6,none⟩=some (.int .i64 o2)∧W.cell? ⟨b1,off+j * 10+7,none⟩=some (.string n2)∧W.cell? ⟨b1,off+j * 10+8,none⟩=some (.int .i64 v2)∧W.cell? ⟨b1,off+j * 10+9,none⟩=some (.slice A2 m2 cap2)) ∧
      (W.cell? ⟨b2,off2+j * 10,none⟩=some (.int .i64 k3)∧W.cell? ⟨b2,off2+j * 10+1,none⟩=some (.int .i64 o3)∧W.cell? ⟨b2,off2+j * 10+2,none⟩=some (.string n3)∧W.cell? ⟨b2,off2+j * 10+3,none⟩=some (.int .i64 v3)∧W.cell? ⟨b2,off2+j * 10+4,none⟩=some (.slice A3 m3 cap3)) ∧
      (W.cell? ⟨b2,off2+j * 10+5,none⟩=some (.int .i64 k4)∧W.cell? ⟨b2,off2+j * 10+6,none⟩=some (.int .i64 o4)∧W.cell? ⟨b2,off2+j * 10+7,none⟩=some (.string n4)∧W.cell? ⟨b2,off2+j * 10+8,none⟩=some (.int .i64 v4)∧W.cell? ⟨b2,off2+j * 10+9,none⟩=some (.slice A4 m4 cap4))):=Lib.hid (fun W hW=>by
    have h1:=HBW.out.trans (hW.mono HBW.out.size)
    have h2:=HOR.out.next hW
    exact ⟨h2.fst 0 _ rfl,h2.snd 0 _ rfl,⟨(h1.cell (p:=⟨b1,off+j * 10,none⟩) (by show b1<w.heap.size; omega)).trans y0,(h1.cell (p:=⟨b1,off+j * 10+1,none⟩) (by show b1<w.heap.size; omega)).trans y1,(h1.cell (p:=⟨b1,off+j * 10+2,none⟩) (by show b1<w.heap.size; omega)).trans y2,(h1.cell (p:=⟨b1,off+j * 10+3,none⟩) (by show b1<w.heap.size; omega)).trans y3,(h1.cell (p:=⟨b1,off+j * 10+4,none⟩) (by show b1<w.heap.size; omega)).trans y4⟩,⟨(h1.cell (p:=⟨b1,off+j * 10+5,none⟩) (by show b1<w.heap.size; omega)).trans y5,(h1.cell (p:=⟨b1,off+j * 10+6,none⟩) (by show b1<w.heap.size; omega)).trans y6,(h1.cell (p:=⟨b1,off+j * 10+7,none⟩) (by show b1<w.heap.size; omega)).trans y7,(h1.cell (p:=⟨b1,off+j * 10+8,none⟩) (by show b1<w.heap.size; omega)).trans y8,(h1.cell (p:=⟨b1,off+j * 10+9,none⟩) (by show b1<w.heap.size; omega)).trans y9⟩,⟨(h1.cell (p:=⟨b2,off2+j * 10,none⟩) (by show b2<w.heap.size; omega)).trans z0,(h1.cell (p:=⟨b2,off2+j * 10+1,none⟩) (by show b2<w.heap.size; omega)).trans z1,(h1.cell (p:=⟨b2,off2+j * 10+2,none⟩) (by show b2<w.heap.size; omega)).trans z2,(h1.cell (p:=⟨b2,off2+j * 10+3,none⟩) (by show b2<w.heap.size; omega)).trans z3,(h1.cell (p:=⟨b2,off2+j * 10+4,none⟩) (by show b2<w.heap.size; omega)).trans z4⟩,⟨(h1.cell (p:=⟨b2,off2+j * 10+5,none⟩) (by show b2<w.heap.size; omega)).trans z5,(h1.cell (p:=⟨b2,off2+j * 10+6,none⟩) (by show b2<w.heap.size; omega)).trans z6,(h1.cell (p:=⟨b2,off2+j * 10+7,none⟩) (by show b2<w.heap.size; omega)).trans z7,(h1.cell (p:=⟨b2,off2+j * 10+8,none⟩) (by show b2<w.heap.size; omega)).trans z8,(h1.cell (p:=⟨b2,off2+j * 10+9,none⟩) (by show b2<w.heap.size; omega)).trans z9⟩⟩)
   obtain ⟨hv1,hv2⟩:=HVV.out rs[j] (List.getElem_mem hlt)
   have hs1:=fun (W:World) (hW:Below wr.heap.size wr W)=>requal_any rs[j].cond hv1 B _ _ W ((hL1.below' HBW.out hB).below' hW (Nat.le_trans hB HBW.out.size)) ((hL3.below' HBW.out hB).below' hW (Nat.le_trans hB HBW.out.size)) (Nat.le_trans (Nat.le_trans hB HBW.out.size) hW.size)
   have hs2:=fun (W:World) (hW:Below wr.heap.size wr W)=>requal_any rs[j].key hv2 B _ _ W ((hL2.below' HBW.out hB).below' hW (Nat.le_trans hB HBW.out.size)) ((hL4.below' HBW.out hB).below' hW (Nat.le_trans hB HBW.out.size)) (Nat.le_trans (Nat.le_trans hB HBW.out.size) hW.size)
   unfold exC Ret at hs1 hs2
   have HS:Hid (∀ W,Below wr.heap.size wr W→∀ x y:Array Value,(x=#[.int .i64 k1,.int .i64 o1,.string n1,.int .i64 v1,.slice A1 m1 cap1]∧y=#[.int .i64 k3,.int .i64 o3,.string n3,.int .i64 v3,.slice A3 m3 cap3])∨(x=#[.int .i64 k2,.int .i64 o2,.string n2,.int .i64 v2,.slice A2 m2 cap2]∧y=#[.int .i64 k4,.int .i64 o4,.string n4,.int .i64 v4,.slice A4 m4 cap4]) →
     Calls Tryz.prog 30 #[.agg x,.agg y] W fun e w'=>e=.returned (.bool true)∧Below W.heap.size W w'):=Lib.hid (fun W hW x y h=>by
    rcases h with ⟨rfl,rfl⟩ | ⟨rfl,rfl⟩
    ·exact hs1 W hW
    ·exact hs2 W hW)
   clear hs1 hs2 hL1 hL2 hL3 hL4 y0 y1 y2 y3 y4 y5 y6 y7 y8 y9 z0 z1 z2 z3 z4 z5 z6 z7 z8 z9 hv1 hv2
   go_upto_region 6 with fail
   go_cut [49] (fun r wx=>r=.bool false∧Below wr.heap.size wr wx)
   case first=>
    have hB:Below wr.heap.size wr wr.drew:=below_drews _ _ 1
    go_region_held3 (fun W=>W.cell? ⟨w.heap.size,0,none⟩=some (.slice (some ⟨b1,off,none⟩) rs.length c)∧W.cell? ⟨w.heap.size+1,0,none⟩=some (.slice (some ⟨b2,off2,none⟩) rs.length c') ∧
      (W.cell? ⟨b1,off+j * 10,none⟩=some (.int .i64 k1)∧W.cell? ⟨b1,off+j * 10+1,none⟩=some (.int .i64 o1)∧W.cell? ⟨b1,off+j * 10+2,none⟩=some (.string n1)∧W.cell? ⟨b1,off+j * 10+3,none⟩=some (.int .i64 v1)∧W.cell? ⟨b1,off+j * 10+4,none⟩=some (.slice A1 m1 cap1)) ∧
      (W.cell? ⟨b1,off+j * 10+5,none⟩=some (.int .i64 k2)∧W.cell? ⟨b1,off+j * 10+6,none⟩=some (.int .i64 o2)∧W.cell? ⟨b1,off+j * 10+7,none⟩=some (.string n2)∧W.cell? ⟨b1,off+j * 10+8,none⟩=some (.int .i64 v2)∧W.cell? ⟨b1,off+j * 10+9,none⟩=some (.slice A2 m2 cap2)) ∧
      (W.cell? ⟨b2,off2+j * 10,none⟩=some (.int .i64 k3)∧W.cell? ⟨b2,off2+j * 10+1,none⟩=some (.int .i64 o3)∧W.cell? ⟨b2,off2+j * 10+2,none⟩=some (.string n3)∧W.cell? ⟨b2,off2+j * 10+3,none⟩=some (.int .i64 v3)∧W.cell? ⟨b2,off2+j * 10+4,none⟩=some (.slice A3 m3 cap3)) ∧
      (W.cell? ⟨b2,off2+j * 10+5,none⟩=some (.int .i64 k4)∧W.cell? ⟨b2,off2+j * 10+6,none⟩=some (.int .i64 o4)∧W.cell? ⟨b2,off2+j * 10+7,none⟩=some (.string n4)∧W.cell? ⟨b2,off2+j * 10+8,none⟩=some (.int .i64 v4)∧W.cell? ⟨b2,off2+j * 10+9,none⟩=some (.slice A4 m4 cap4)))
     (first | exact HC.out _ hB | exact HC.out _ (below_drews _ _ 1))
     (first
     | (go_at_call 30; refine (HS.out _ hB _ _ (by first | exact .inl ⟨rfl,rfl⟩ | exact .inr ⟨rfl,rfl⟩)).mono ?_; rintro e W ⟨rfl,hb5⟩; replace hB:=hB.trans (hb5.mono hB.size)))
    go_wp2_with fail
    go_meet
    exact ⟨rfl,hB⟩
   case rest=>
    obtain ⟨rfl,hbx⟩:=hcut
    have HB5:=Lib.hid (HB.out.trans (hbx.mono HB.out.size))
    clear HS HC hbx x0 q0
    go_wp2_with fail
    exact ⟨⟨rfl,j+1,by go_num,by omega,HB5.out⟩,by simp [intOf]; omega⟩
  ·have hd1:decide ((j:Int)<(rs.length:Int))=false:=decide_eq_false (by omega)
   have hd2:decide (j<rs.length)=false:=decide_eq_false hlt
   go_wp2_with fail
   go_ret
   exact ⟨rfl,HBW.out⟩
end Go.Proofs.YtmbffkemfepekaaGreatDoor

namespace Go.Proofs.YtmbffkemfepekaaGreatDoor
open Go.RowKit Go.Sort
/-- What Parse returns: the rules, the place and the error. -/
def polOf:PolR→List Rl × Nat × Nat
 | .ok rs=>(rs,0,0)
 | .er a f=>([],a,f)
theorem par_form {r:PolR} {w W:World} {e:Ending} (h:ParR r w e W):Below w.heap.size w W∧∃ (A:Option Addr) (c:Nat),e=.returned (.tuple #[.agg #[.slice A (polOf r).1.length c],.int .i64 ((polOf r).2.1:Nat),.int .i64 ((polOf r).2.2:Nat)])∧LiesP W W.heap.size A c (polOf r).1:=by
 obtain ⟨hb,h⟩:=h
 cases r with
 | ok rs=>
  obtain ⟨A,c,he,hl⟩:=h
  exact ⟨hb,A,c,he,hl⟩
 | er a f=>exact ⟨hb,none,0,h,⟨by simp [polOf],by simp [polOf],fun i hi=>by simp [polOf] at hi⟩⟩
theorem pol_valid (s:ByteArray):∀ r∈(polOf (parseM s)).1,chkE r.cond=0∧chkE r.key=0:=by
 cases h:parseM s with
 | ok rs=>
  have hv:=parse_valid h
  exact fun r hr=>⟨(tyE_good ((chkP_rule hv).2 r hr).1).1,(tyE_good ((chkP_rule hv).2 r hr).2).1⟩
 | er a f=>exact fun r hr=>by cases hr
theorem pprV_form (rs:List Rl):∃ (t:ByteArray) (f:Nat),pprV rs=.tuple #[.string t,.int .i64 (f:Nat)]:=by
 unfold pprV
 split
 ·exact ⟨_,0,rfl⟩
 ·exact ⟨_,_,rfl⟩
set_option maxRecDepth 100000 in
set_option maxHeartbeats 12800000 in
theorem ptexts_any (A:Option Addr) (c B:Nat) (rs:List Rl) (s:ByteArray) (w:World) (hP:LiesP w B A c rs) (hB:B≤w.heap.size) (hen:Env w.heap.size w) :
  Calls Tryz.prog 3 #[.agg #[.slice A rs.length c],.string s] w (Ret (.bool true) w):=by
 have hl:=hP.len
 have HAW:=Lib.hid (fun W (hb:Below w.heap.size w W)=>awake_any W ((hen.next hb).more hb.size))
 have HGR:=Lib.hid (fun W (hb:Below w.heap.size w W)=>great_any A c B rs W (hP.below' hb hB) (Nat.le_trans hB hb.size))
 have HPR:=Lib.hid (fun W (hb:Below w.heap.size w W)=>pprint_any A c B rs W (hP.below' hb hB) (Nat.le_trans hB hb.size) ((hen.next hb).more hb.size).tab)
 have HRP:=Lib.hid (fun W (hb:Below w.heap.size w W)=>rpprint_any A c B rs W (hP.below' hb hB) (Nat.le_trans hB hb.size))
 have HC1:=Lib.hid (fun W (hb:Below w.heap.size w W)=>pck_any A c B rs W (hP.below' hb hB) (Nat.le_trans hB hb.size))
 have HC2:=Lib.hid (fun W (hb:Below w.heap.size w W)=>rpck_any A c B rs W (hP.below' hb hB) (Nat.le_trans hB hb.size))
 have HPA:=Lib.hid (fun W (hb:Below w.heap.size w W) (hs:s.size≤140737488355328)=>parse_any s hs W ((hen.next hb).more hb.size))
 have HRA:=Lib.hid (fun W (hs:s.size≤140737488355328)=>rparse_any s hs W)
 have HVV:=Lib.hid (pol_valid s)
 have hO:=one_new w #[.slice A rs.length c] 24
 unfold Ret at HAW HGR HPR HRP
 unfold Ret
 clear hP hen
 cases hg:grtP rs with
 | true=>
  rw [hg] at HGR
  clear hg
  go_enter Tryz.func3,Tryz.ntmps3
  go_upto_region 1 with fail
  generalize w.alloc _=w1 at hO ⊢
  have x0:=hO.fst 0 _ rfl
  have HB1:=Lib.hid hO.below
  clear hO
  go_wp2_with (first
   | (go_at_call 4; refine (HGR.out _ HB1.out).mono ?_; rintro e w2 ⟨rfl,hb2⟩; have HB2:=Lib.hid (HB1.out.trans (hb2.mono HB1.out.size)))
   | (go_at_call 5; refine (HAW.out _ HB2.out).mono ?_; rintro e w3 ⟨rfl,hb3⟩))
  go_ret
  exact ⟨rfl,HB2.out.trans (hb3.mono HB2.out.size)⟩
 | false=>
  rw [hg] at HGR
  clear hg
  by_cases hs:300<s.size
  ·have c1:decide ((s.size:Int) > 300)=true:=decide_eq_true (by omega)
   have c2:decide (300<(s.size:Int))=true:=decide_eq_true (by omega)
   have c3:decide (300<s.size)=true:=decide_eq_true hs
   clear hs
   go_enter Tryz.func3,Tryz.ntmps3
   go_upto_region 1 with fail
   generalize w.alloc _=w1 at hO ⊢
   have x0:=hO.fst 0 _ rfl
   have HB1:=Lib.hid hO.below
   clear hO
   go_wp2_with (first
    | (go_at_call 4; refine (HGR.out _ HB1.out).mono ?_; rintro e w2 ⟨rfl,hb2⟩; have HB2:=Lib.hid (HB1.out.trans (hb2.mono HB1.out.size)))
    | (go_at_call 5; refine (HAW.out _ HB2.out).mono ?_; rintro e w3 ⟨rfl,hb3⟩))
   go_ret
   exact ⟨rfl,HB2.out.trans (hb3.mono HB2.out.size)⟩
  ·have c1:decide ((s.size:Int) > 300)=false:=decide_eq_false (by omega)
   have c2:decide (300<(s.size:Int))=false:=decide_eq_false (by omega)
   have c3:decide (300<s.size)=false:=decide_eq_false hs
   have HSZ:Hid (s.size≤140737488355328):=Lib.hid (by omega)
   obtain ⟨t,f,hprv⟩:=pprV_form rs
   rw [hprv] at HPR HRP
   clear hs hprv
   go_enter Tryz.func3,Tryz.ntmps3
   go_upto_region 1 with fail
   generalize w.alloc _=w1 at hO ⊢
   have x0:=hO.fst 0 _ rfl
   go_upto_region 3 with (go_at_call 4; refine (HGR.out _ hO.below).mono ?_; rintro e w2 ⟨rfl,hb2⟩)
   clear x0 c1 c2 c3 HGR
   replace hO:=hO.next hb2
   clear hb2
   have x0:=hO.fst 0 _ rfl
   go_wp2_with fail
   refine (HPR.out _ hO.below).mono ?_
   rintro e w3 ⟨rfl,hb3⟩
   clear x0
   replace hO:=hO.next hb3
   clear hb3
   have x0:=hO.fst 0 _ rfl
   go_wp2_with fail
   refine (HRP.out _ hO.below).mono ?_
   rintro e w4 ⟨rfl,hb4⟩
   clear x0
   replace hO:=hO.next hb4
   clear hb4
   go_wp2_with fail
   refine (HPA.out _ hO.below HSZ.out).mono ?_
   rintro e w5 h5
   obtain ⟨hb5,A1,c1,rfl,hP1⟩:=par_form h5
   replace hO:=hO.next hb5
   clear h5 hb5
   have HPF:Hid (∀ (w W:World) (e:Ending),ParR (parseM s) w e W→Below w.heap.size w W∧∃ (A:Option Addr) (c:Nat),e=.returned (.tuple #[.agg #[.slice A (polOf (parseM s)).1.length c],.int .i64 ((polOf (parseM s)).2.1:Nat),.int .i64 ((polOf (parseM s)).2.2:Nat)])∧LiesP W W.heap.size A c (polOf (parseM s)).1):=Lib.hid (fun _ _ _ h=>par_form h)
   generalize (polOf (parseM s)).1=ys at HVV HPF hP1 ⊢
   generalize (polOf (parseM s)).2.1=pa at HPF ⊢
   generalize (polOf (parseM s)).2.2=pf at HPF ⊢
   generalize hyn:ys.length=yn
   have HYN:=Lib.hid hyn
   clear hyn
   have hba:=below_alloc w5 (.cells #[.slice A1 yn c1] 24)
   have y0:(w5.alloc (.cells #[.slice A1 yn c1] 24)).cell? ⟨w5.heap.size,0,none⟩=some (.slice A1 yn c1):=bx_new w5 #[.slice A1 yn c1] 24 0 _ rfl
   have hz6:w5.heap.size<(w5.alloc (.cells #[.slice A1 yn c1] 24)).heap.size:=by simp
   have hP6:=hP1.below' hba (Nat.le_refl _)
   replace hO:=hO.next hba
   clear hba hP1
   go_upto_region 6 with fail
   generalize w5.alloc _=w6 at y0 hz6 hP6 hO ⊢
   generalize w5.heap.size=Y at y0 hz6 hP6 ⊢
   go_wp2_with fail
   refine (HRA.out w6 HSZ.out).mono ?_
   rintro e w7 h7
   obtain ⟨hb7,A2,c2,rfl,hP2⟩:=HPF.out _ _ _ h7
   rw [HYN.out]
   replace hO:=hO.next hb7
   have y1:=(hb7.cell (p:=⟨Y,0,none⟩) hz6).trans y0
   have hz7:=Nat.lt_of_lt_of_le hz6 hb7.size
   have hP7:=hP6.below' hb7 (Nat.le_of_lt hz6)
   clear h7 hb7 y0 hz6 hP6 HPF
   have hba:=below_alloc w7 (.cells #[.slice A2 yn c2] 24)
   have z0:(w7.alloc (.cells #[.slice A2 yn c2] 24)).cell? ⟨w7.heap.size,0,none⟩=some (.slice A2 yn c2):=bx_new w7 #[.slice A2 yn c2] 24 0 _ rfl
   have hz8:w7.heap.size<(w7.alloc (.cells #[.slice A2 yn c2] 24)).heap.size:=by simp
   have hP8:=hP2.below' hba (Nat.le_refl _)
   have hP9:=(hP7.below' hba (Nat.le_of_lt hz7)).more (Nat.le_of_lt hz7)
   have y2:=(hba.cell (p:=⟨Y,0,none⟩) hz7).trans y1
   replace hO:=hO.next hba
   clear hba hP7 hP2 y1 hz7
   go_upto_region 7 with fail
   generalize w7.alloc _=w8 at y2 z0 hz8 hP8 hP9 hO ⊢
   generalize w7.heap.size=Z at z0 hz8 hP8 hP9 ⊢
   have x0:=hO.fst 0 _ rfl
   have HBW:=Lib.hid hO.below
   have HS:=Lib.hid (fun (W:World) (hW:Below w8.heap.size w8 W)=>rsame_any A1 A2 c1 c2 Z ys W (hP9.below' hW (Nat.le_of_lt hz8)) (hP8.below' hW (Nat.le_of_lt hz8)) (Nat.le_trans (Nat.le_of_lt hz8) hW.size) HVV.out)
   rw [HYN.out] at HS
   have g0:=fun d os=>cell_regrown (w:=w8) x0 d os
   have g1:=fun d os=>cell_regrown (w:=w8) y2 d os
   have g2:=fun d os=>cell_regrown (w:=w8) z0 d os
   have HA:=Lib.hid (fun d os=>HC1.out (grow (redrawn w8 d) os) (HBW.out.trans ((below_regrown w8 d os).mono HBW.out.size)))
   have HB:=Lib.hid (fun d os=>HC2.out (grow (redrawn w8 d) os) (HBW.out.trans ((below_regrown w8 d os).mono HBW.out.size)))
   have HE:=Lib.hid (fun d os=>HAW.out (grow (redrawn w8 d) os) (HBW.out.trans ((below_regrown w8 d os).mono HBW.out.size)))
   have HD:=Lib.hid (fun d os=>HS.out (grow (redrawn w8 d) os) (below_regrown w8 d os))
   generalize chkP rs=ck at HA HB
   clear hO hP8 hP9 HC1 HC2
   refine wp_region_quiet_below (by kernel_rfl) (by kernel_rfl) ?_
   repeat (go_big_quiet_step (first | with_reducible exact Calls.regrown_of (HA.out _ _) | with_reducible exact Calls.regrown_of (HB.out _ _) | with_reducible exact Calls.regrown_of (HD.out _ _) | with_reducible exact Calls.regrown_of (HE.out _ _)))
   refine wpQuiet_nil ?_
   rintro _ ⟨pq,rfl⟩
   have hb9:=Lib.hid (HBW.out.trans ((below_regrown w8 pq.d pq.os).mono HBW.out.size))
   generalize grow (redrawn w8 pq.d) pq.os=w9 at hb9 ⊢
   clear x0 y2 z0 g0 g1 g2
   go_wp2_with fail
   go_ret
   exact ⟨rfl,hb9.out⟩
end Go.Proofs.YtmbffkemfepekaaGreatDoor
