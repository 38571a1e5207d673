/- expr.check at kind 4, walked. Conditions: the expression lies in memory. -/
import Derived.Test.YtmbffkemfepekaaGreatDoorPtOps
import Derived.Test.YtmbffkemfepekaaGreatDoorPtCk1
import Derived.Test.YtmbffkemfepekaaGreatDoorPtCk2
import Derived.Test.YtmbffkemfepekaaGreatDoorPtCk3
namespace Go.Proofs.YtmbffkemfepekaaGreatDoor
open Go.RowKit
set_option maxRecDepth 100000 in
set_option maxHeartbeats 3200000 in
theorem check_k4 (o:Int) (n:ByteArray) (v:Int) (A:Option Addr) (m c:Nat) (hnm:n.size≤9223372036854775807) (w:World):Calls Tryz.prog 68 #[.agg (exC 4 o n v A m c).toArray] w (Ret (.int .i64 (chkN 4 o n v m:Nat)) w):=by
 have hO:=one_new w #[.int .i64 4,.int .i64 o,.string n,.int .i64 v,.slice A m c] 38
 unfold exC Ret
 go_enter Tryz.func68,Tryz.ntmps68
 go_upto_region 1 with fail
 generalize w.alloc _=w1 at hO ⊢
 obtain ⟨x0,x1,x2,x3,x4⟩:=bx5 hO.fst
 have hz:w.heap.size<w1.heap.size:=hO.size
 go_upto_region 3 with fail
 go_cut [3,4] (fun r3 r4 wx=>∃ R:Nat,r3=.pointer (some ⟨R,0,none⟩)∧r4=.int .i64 2∧w.heap.size<R∧Bx wx R [.int .i64 4,.int .i64 o,.string n,.int .i64 v,.slice A m c]∧(∀ j,wx.frozen? ⟨R,j,none⟩=false)∧One w wx [.int .i64 4,.int .i64 o,.string n,.int .i64 v,.slice A m c])
 case first=>
  go_region
  all_goals (go_wp2_with fail; go_meet)
  ·case rel=>
    have hT:=two_new w1 #[.int .i64 0,.int .i64 0,.int .i64 0,.int .i64 1,.int .i64 2] #[.int .i64 4,.int .i64 o,.string n,.int .i64 v,.slice A m c] 3 38
    exact ⟨w1.heap.size+1,rfl,rfl,by omega,hT.snd,fun j=>by simp,hO.next ⟨hT.below.os,hT.below.tape,hT.below.output,hT.below.size,hT.below.block⟩⟩
  ·case rel=>
    have hT:=two_new w1 #[.int .i64 4,.int .i64 o,.string n,.int .i64 v,.slice A m c] #[.int .i64 0,.int .i64 0,.int .i64 0,.int .i64 1,.int .i64 2] 38 3
    exact ⟨w1.heap.size,rfl,rfl,by omega,hT.fst,fun j=>by simp,hO.next ⟨hT.below.os,hT.below.tape,hT.below.output,hT.below.size,hT.below.block⟩⟩
 case rest=>
  obtain ⟨R,rfl,rfl,hR,hB,hF,hO2⟩:=hcut
  clear x0 x1 x2 x3 x4 hO hz
  obtain ⟨x0,x1,x2,x3,x4⟩:=bx5 hO2.fst
  obtain ⟨r0,r1,r2,r3,r4⟩:=bx5 hB
  have f0:=hF 0
  have f1:=hF 1
  have f2:=hF 2
  have f3:=hF 3
  have hne:w.heap.size≠R:=by omega
  have hne2:R≠w.heap.size:=by omega
  go_upto_region 10 with fail
  have hxd:∀ j u,wc.cell? ⟨w.heap.size,j,none⟩=some u→(wc.setCell ⟨R,1,none⟩ (.int .i64 0)).cell? ⟨w.heap.size,j,none⟩=some u:=fun j u hu=>(World.cell?_setCell_far _ _ _ _ hne2).trans hu
  have hrd:∀ j u,j≠1→wc.cell? ⟨R,j,none⟩=some u→(wc.setCell ⟨R,1,none⟩ (.int .i64 0)).cell? ⟨R,j,none⟩=some u:=fun j u hj hu=>(World.cell?_setCell_other _ _ _ _ (by intro e; simp only [Addr.mk.injEq] at e; omega)).trans hu
  have y0:=hxd 0 _ x0
  have y1:=hxd 1 _ x1
  have y2:=hxd 2 _ x2
  have y3:=hxd 3 _ x3
  have y4:=hxd 4 _ x4
  have s1:(wc.setCell ⟨R,1,none⟩ (.int .i64 0)).cell? ⟨R,1,none⟩=some (.int .i64 0):=World.cell?_setCell_same _ _ _ r1
  have s2:=hrd 2 _ (by decide) r2
  have s3:=hrd 3 _ (by decide) r3
  have hbd:Below w.heap.size w (wc.setCell ⟨R,1,none⟩ (.int .i64 0)):=hO2.below.setCell (p:=⟨R,1,none⟩) (Nat.le_of_lt hR) _
  have hzd:w.heap.size<(wc.setCell ⟨R,1,none⟩ (.int .i64 0)).heap.size:=by have:=hO2.size; simp; omega
  clear hxd hrd x0 x1 x2 x3 x4 r0 r1 r2 r3 r4 f0 f1 f2 f3 hB hF hO2
  generalize wc.setCell _ _=wd at y0 y1 y2 y3 y4 s1 s2 s3 hbd hzd ⊢
  by_cases hn:n.size=0
  rotate_left
  ·have HNO:Hid (chkN 4 o n v m=1):=Lib.hid (by unfold chkN; rw [if_neg (by omega),if_pos (.inr (.inl ⟨by omega,hn⟩))])
   have t1:(n != ⟨#[]⟩)=true:=str_ne hn
   have t2:¬ n.toList=[]:=str_nl hn
   have t3:n.toList.isEmpty=false:=by simpa using t2
   clear hn
   go_wp2_with fail
   refine bodyPost_ret (results_tmp rfl _ _ _) rfl ?_
   exact ⟨by rw [HNO.out]; rfl,hbd⟩
  obtain rfl:n=⟨#[]⟩:=str_eq hn
  by_cases hv:v=0
  rotate_left
  ·have HNO:Hid (chkN 4 o ⟨#[]⟩ v m=1):=Lib.hid (by unfold chkN; rw [if_neg (by omega),if_pos (.inl ⟨by omega,hv⟩)])
   have t1:(v != 0)=true:=by simpa using hv
   clear hv
   go_wp2_with fail
   refine bodyPost_ret (results_tmp rfl _ _ _) rfl ?_
   exact ⟨by rw [HNO.out]; rfl,hbd⟩
  subst hv
  by_cases hm:m=2
  rotate_left
  ·have HNO:Hid (chkN 4 o ⟨#[]⟩ 0 m=1):=Lib.hid (by unfold chkN; rw [if_neg (by omega),if_pos (.inr (.inr (.inr (by unfold argsN; simpa using hm))))])
   have t1:((m:Int) != 2)=true:=by simpa using (by omega:¬ (m:Int)=2)
   have t2:(m != 2)=true:=by simpa using hm
   clear hm
   go_wp2_with fail
   refine bodyPost_ret (results_tmp rfl _ _ _) rfl ?_
   exact ⟨by rw [HNO.out]; rfl,hbd⟩
  subst hm
  go_upto_region 12 with fail
  go_cut [6] (fun r6 wx=>r6=.bool (knownB o)∧Below w.heap.size w wx∧wx.cell? ⟨w.heap.size,0,none⟩=some (.int .i64 4)∧wx.cell? ⟨w.heap.size,1,none⟩=some (.int .i64 o)∧wx.cell? ⟨w.heap.size,2,none⟩=some (.string ⟨#[]⟩)∧wx.cell? ⟨w.heap.size,3,none⟩=some (.int .i64 0))
  case first=>
   have hbe:Below w.heap.size w wd.drew:=⟨hbd.os,hbd.tape,hbd.output,hbd.size,hbd.block⟩
   replace y0:wd.drew.cell? ⟨w.heap.size,0,none⟩=_:=y0
   replace y1:wd.drew.cell? ⟨w.heap.size,1,none⟩=_:=y1
   replace y2:wd.drew.cell? ⟨w.heap.size,2,none⟩=_:=y2
   replace y3:wd.drew.cell? ⟨w.heap.size,3,none⟩=_:=y3
   replace hzd:w.heap.size<wd.drew.heap.size:=hzd
   refine wp_region_held_drew (S:=fun w'=>w'.cell? ⟨w.heap.size,1,none⟩=some (.int .i64 o)∧w.heap.size<w'.heap.size) (by kernel_rfl) ⟨y1,hzd⟩ (fun hHeld=>?_)
   clear s1 s2 s3 hbd y4
   generalize wd.drew=we at y0 y1 y2 y3 hzd hHeld hbe ⊢
   have y1a:=fun ob=>(World.cell?_alloc_lt we ob ⟨w.heap.size,1,none⟩ hzd).trans y1
   have hza:=fun ob:Obj=>Nat.lt_of_lt_of_le hzd (below_alloc we ob).size
   have y1b:=y1a (.cells #[.string ⟨#[]⟩,.int .i64 0,.int .i64 0,.int .i64 0,.nilFunc] 124)
   have hzb:=hza (.cells #[.string ⟨#[]⟩,.int .i64 0,.int .i64 0,.int .i64 0,.nilFunc] 124)
   have za0:(we.alloc (.cells #[.string ⟨#[]⟩,.int .i64 0,.int .i64 0,.int .i64 0,.nilFunc] 124)).cell? ⟨we.heap.size,0,none⟩=some (.string ⟨#[]⟩):=bx_new we #[.string ⟨#[]⟩,.int .i64 0,.int .i64 0,.int .i64 0,.nilFunc] 124 0 _ rfl
   have fa0:(we.alloc (.cells #[.string ⟨#[]⟩,.int .i64 0,.int .i64 0,.int .i64 0,.nilFunc] 124)).frozen? ⟨we.heap.size,0,none⟩=false:=by simp
   have za1:(we.alloc (.cells #[.string ⟨#[]⟩,.int .i64 0,.int .i64 0,.int .i64 0,.nilFunc] 124)).cell? ⟨we.heap.size,1,none⟩=some (.int .i64 0):=bx_new we #[.string ⟨#[]⟩,.int .i64 0,.int .i64 0,.int .i64 0,.nilFunc] 124 1 _ rfl
   have fa1:(we.alloc (.cells #[.string ⟨#[]⟩,.int .i64 0,.int .i64 0,.int .i64 0,.nilFunc] 124)).frozen? ⟨we.heap.size,1,none⟩=false:=by simp
   have za2:(we.alloc (.cells #[.string ⟨#[]⟩,.int .i64 0,.int .i64 0,.int .i64 0,.nilFunc] 124)).cell? ⟨we.heap.size,2,none⟩=some (.int .i64 0):=bx_new we #[.string ⟨#[]⟩,.int .i64 0,.int .i64 0,.int .i64 0,.nilFunc] 124 2 _ rfl
   have fa2:(we.alloc (.cells #[.string ⟨#[]⟩,.int .i64 0,.int .i64 0,.int .i64 0,.nilFunc] 124)).frozen? ⟨we.heap.size,2,none⟩=false:=by simp
   have za3:(we.alloc (.cells #[.string ⟨#[]⟩,.int .i64 0,.int .i64 0,.int .i64 0,.nilFunc] 124)).cell? ⟨we.heap.size,3,none⟩=some (.int .i64 0):=bx_new we #[.string ⟨#[]⟩,.int .i64 0,.int .i64 0,.int .i64 0,.nilFunc] 124 3 _ rfl
   have fa3:(we.alloc (.cells #[.string ⟨#[]⟩,.int .i64 0,.int .i64 0,.int .i64 0,.nilFunc] 124)).frozen? ⟨we.heap.size,3,none⟩=false:=by simp
   have za4:(we.alloc (.cells #[.string ⟨#[]⟩,.int .i64 0,.int .i64 0,.int .i64 0,.nilFunc] 124)).cell? ⟨we.heap.size,4,none⟩=some (.nilFunc):=bx_new we #[.string ⟨#[]⟩,.int .i64 0,.int .i64 0,.int .i64 0,.nilFunc] 124 4 _ rfl
   have fa4:(we.alloc (.cells #[.string ⟨#[]⟩,.int .i64 0,.int .i64 0,.int .i64 0,.nilFunc] 124)).frozen? ⟨we.heap.size,4,none⟩=false:=by simp
   have hlz:we.heap.size<(we.alloc (.cells #[.string ⟨#[]⟩,.int .i64 0,.int .i64 0,.int .i64 0,.nilFunc] 124)).heap.size:=by simp
   have hne5:we.heap.size≠w.heap.size:=Nat.ne_of_gt hzd
   have HZ:=Lib.hid (And.intro za0 (And.intro za1 (And.intro za2 (And.intro za3 za4))))
   have HF:=Lib.hid (And.intro fa0 (And.intro fa1 (And.intro fa2 (And.intro fa3 fa4))))
   clear za0 za1 za2 za3 za4 fa0 fa1 fa2 fa3 fa4
   have H12A:Hid (∀ (W5:World) (ob:Obj),Below we.heap.size we W5→(fun wx:World=>Below w.heap.size w wx∧wx.cell? ⟨w.heap.size,0,none⟩=some (.int .i64 4)∧wx.cell? ⟨w.heap.size,1,none⟩=some (.int .i64 o)∧wx.cell? ⟨w.heap.size,2,none⟩=some (.string ⟨#[]⟩)∧wx.cell? ⟨w.heap.size,3,none⟩=some (.int .i64 0)) (W5.alloc ob)):=Lib.hid (fun W5 ob hb=>⟨(hbe.trans (hb.mono hbe.size)).alloc (Nat.le_trans hbe.size hb.size) ob,(World.cell?_alloc_lt W5 _ ⟨w.heap.size,0,none⟩ (Nat.lt_of_lt_of_le hzd hb.size)).trans ((hb.cell (p:=⟨w.heap.size,0,none⟩) hzd).trans y0),(World.cell?_alloc_lt W5 _ ⟨w.heap.size,1,none⟩ (Nat.lt_of_lt_of_le hzd hb.size)).trans ((hb.cell (p:=⟨w.heap.size,1,none⟩) hzd).trans y1),(World.cell?_alloc_lt W5 _ ⟨w.heap.size,2,none⟩ (Nat.lt_of_lt_of_le hzd hb.size)).trans ((hb.cell (p:=⟨w.heap.size,2,none⟩) hzd).trans y2),(World.cell?_alloc_lt W5 _ ⟨w.heap.size,3,none⟩ (Nat.lt_of_lt_of_le hzd hb.size)).trans ((hb.cell (p:=⟨w.heap.size,3,none⟩) hzd).trans y3)⟩)
   have H12B:Hid (∀ (W5:World) (v0 v1 v2 v3 v4:Value),Below (we.alloc (.cells #[.string ⟨#[]⟩,.int .i64 0,.int .i64 0,.int .i64 0,.nilFunc] 124)).heap.size (we.alloc (.cells #[.string ⟨#[]⟩,.int .i64 0,.int .i64 0,.int .i64 0,.nilFunc] 124)) W5→(fun wx:World=>Below w.heap.size w wx∧wx.cell? ⟨w.heap.size,0,none⟩=some (.int .i64 4)∧wx.cell? ⟨w.heap.size,1,none⟩=some (.int .i64 o)∧wx.cell? ⟨w.heap.size,2,none⟩=some (.string ⟨#[]⟩)∧wx.cell? ⟨w.heap.size,3,none⟩=some (.int .i64 0)) (((((W5.setCell ⟨we.heap.size,0,none⟩ v0).setCell ⟨we.heap.size,1,none⟩ v1).setCell ⟨we.heap.size,2,none⟩ v2).setCell ⟨we.heap.size,3,none⟩ v3).setCell ⟨we.heap.size,4,none⟩ v4)):=Lib.hid (fun W5 v0 v1 v2 v3 v4 hb=>⟨set5_below ((hbe.alloc hbe.size _).trans (hb.mono (Nat.le_of_lt (hza _)))) (Nat.le_of_lt hzd) _ _ _ _ _,(set5_far _ hne5 _ _ _ _ _ _).trans ((hb.cell (p:=⟨w.heap.size,0,none⟩) (hza _)).trans ((World.cell?_alloc_lt we _ ⟨w.heap.size,0,none⟩ hzd).trans y0)),(set5_far _ hne5 _ _ _ _ _ _).trans ((hb.cell (p:=⟨w.heap.size,1,none⟩) (hza _)).trans ((World.cell?_alloc_lt we _ ⟨w.heap.size,1,none⟩ hzd).trans y1)),(set5_far _ hne5 _ _ _ _ _ _).trans ((hb.cell (p:=⟨w.heap.size,2,none⟩) (hza _)).trans ((World.cell?_alloc_lt we _ ⟨w.heap.size,2,none⟩ hzd).trans y2)),(set5_far _ hne5 _ _ _ _ _ _).trans ((hb.cell (p:=⟨w.heap.size,3,none⟩) (hza _)).trans ((World.cell?_alloc_lt we _ ⟨w.heap.size,3,none⟩ hzd).trans y3))⟩)
   cases hk:knownB o with
   | false=>
    refine wpAnyH_take (i:=1) (v:=?_) rfl (by kernel_rfl) (by kernel_rfl) (by kernel_rfl) (fun _ _ _ h=>h) (Or.inl ⟨by kernel_rfl,?_⟩) (by assumption) ?_
    rotate_left
    ·intro w hSw; (try dsimp only at hSw); go_simp; with_reducible rfl
    try simp only [List.getElem_toArray,List.getElem_cons_succ,List.getElem_cons_zero,Act.put,List.setIfInBounds_toArray,List.set_cons_zero,List.set_cons_succ]
    refine wpAnyH_take (i:=2) (v:=?_) rfl (by kernel_rfl) (by kernel_rfl) (by kernel_rfl) (fun _ _ _ h=>h) (Or.inl ⟨by kernel_rfl,?_⟩) (by assumption) ?_
    rotate_left
    ·intro w hSw; (try dsimp only at hSw); go_simp; with_reducible rfl
    try simp only [List.getElem_toArray,List.getElem_cons_succ,List.getElem_cons_zero,Act.put,List.setIfInBounds_toArray,List.set_cons_zero,List.set_cons_succ]
    refine wpAnyH_ready (rs:=[0,7]) (by kernel_rfl) (by simp) ?_
    refine (AllReadyH.cons rfl (fun K hK=>?_) (AllReadyH.cons rfl (fun K hK=>?_) AllReadyH.nil))
    ·go_simp
     first
     | (refine (ops_no we w.heap.size o hk y1 hzd).mono ?_; rintro e W5 ⟨M5,rfl,q1,q2,hb5a,l1,l2,q1a,q2a⟩)
     | (refine (ops_no _ w.heap.size o hk y1b hzb).mono ?_; rintro e W5 ⟨M5,rfl,r1,r2,hb5b,l1,l2,r1a,r2a⟩; have z0:=(hb5b.cell (p:=⟨we.heap.size,0,none⟩) hlz).trans HZ.out.1; have g0:=(hb5b.frozen (p:=⟨we.heap.size,0,none⟩) hlz).trans HF.out.1; have z1:=(hb5b.cell (p:=⟨we.heap.size,1,none⟩) hlz).trans HZ.out.2.1; have g1:=(hb5b.frozen (p:=⟨we.heap.size,1,none⟩) hlz).trans HF.out.2.1; have z2:=(hb5b.cell (p:=⟨we.heap.size,2,none⟩) hlz).trans HZ.out.2.2.1; have g2:=(hb5b.frozen (p:=⟨we.heap.size,2,none⟩) hlz).trans HF.out.2.2.1; have z3:=(hb5b.cell (p:=⟨we.heap.size,3,none⟩) hlz).trans HZ.out.2.2.2.1; have g3:=(hb5b.frozen (p:=⟨we.heap.size,3,none⟩) hlz).trans HF.out.2.2.2.1; have z4:=(hb5b.cell (p:=⟨we.heap.size,4,none⟩) hlz).trans HZ.out.2.2.2.2; have g4:=(hb5b.frozen (p:=⟨we.heap.size,4,none⟩) hlz).trans HF.out.2.2.2.2)
     try dsimp only
     refine hK.out _ _ ?_ (fun hHeld=>?_)
     ·first | exact ⟨q1,q2⟩ | exact ⟨r1,r2⟩
     clear hK K
     try simp only [List.getElem_toArray,List.getElem_cons_succ,List.getElem_cons_zero,Act.put,List.setIfInBounds_toArray,List.set_cons_zero,List.set_cons_succ]
     refine wpAnyH_ready (rs:=[3,7]) (by kernel_rfl) (by simp) ?_
     refine (AllReadyH.cons rfl (fun K hK=>?_) (AllReadyH.cons rfl (fun K hK=>?_) AllReadyH.nil))
     ·go_simp
      refine hK.out _ _ ?_ (fun hHeld=>?_)
      ·exact hHeld
      clear hK K
      try simp only [List.getElem_toArray,List.getElem_cons_succ,List.getElem_cons_zero,Act.put,List.setIfInBounds_toArray,List.set_cons_zero,List.set_cons_succ]
      refine wpAnyH_take (i:=4) (v:=?_) rfl (by kernel_rfl) (by kernel_rfl) (by kernel_rfl) (fun _ _ _ h=>h) (Or.inl ⟨by kernel_rfl,?_⟩) (by assumption) ?_
      rotate_left
      ·intro w hSw; (try dsimp only at hSw); go_simp; with_reducible rfl
      try simp only [List.getElem_toArray,List.getElem_cons_succ,List.getElem_cons_zero,Act.put,List.setIfInBounds_toArray,List.set_cons_zero,List.set_cons_succ]
      refine wpAnyH_take (i:=5) (v:=?_) rfl (by kernel_rfl) (by kernel_rfl) (by kernel_rfl) (fun _ _ _ h=>h) (Or.inl ⟨by kernel_rfl,?_⟩) (by assumption) ?_
      rotate_left
      ·intro w hSw; (try dsimp only at hSw); go_simp; with_reducible rfl
      try simp only [List.getElem_toArray,List.getElem_cons_succ,List.getElem_cons_zero,Act.put,List.setIfInBounds_toArray,List.set_cons_zero,List.set_cons_succ]
      refine wpAnyH_take (i:=6) (v:=?_) rfl (by kernel_rfl) (by kernel_rfl) (by kernel_rfl) (fun _ _ _ h=>h) (Or.inl ⟨by kernel_rfl,?_⟩) (by assumption) ?_
      rotate_left
      ·intro w hSw; (try dsimp only at hSw); go_simp; with_reducible rfl
      try simp only [List.getElem_toArray,List.getElem_cons_succ,List.getElem_cons_zero,Act.put,List.setIfInBounds_toArray,List.set_cons_zero,List.set_cons_succ]
      refine wpAnyH_ready (rs:=[7]) (by kernel_rfl) (by simp) ?_
      refine AllReadyH.cons rfl (fun K hK=>?_) AllReadyH.nil
      go_simp
      refine hK.out _ _ ?_ (fun hHeld=>?_)
      ·first | exact ⟨q1a _,q2a _⟩ | exact ⟨y1a _,hza _⟩
      clear hK K
      try simp only [List.getElem_toArray,List.getElem_cons_succ,List.getElem_cons_zero,Act.put,List.setIfInBounds_toArray,List.set_cons_zero,List.set_cons_succ]
      refine wpAnyH_ready (rs:=[8]) (by kernel_rfl) (by simp) ?_
      refine AllReadyH.cons rfl (fun K hK=>?_) AllReadyH.nil
      go_simp
      refine hK.out _ _ ?_ (fun hHeld=>?_)
      ·first | exact ⟨q1a _,q2a _⟩ | exact ⟨(set5_far _ hne5 _ _ _ _ _ _).trans r1,Nat.lt_of_lt_of_eq r2 (set5_size _ _ _ _ _ _ _).symm⟩
      clear hK K
      try simp only [List.getElem_toArray,List.getElem_cons_succ,List.getElem_cons_zero,Act.put,List.setIfInBounds_toArray,List.set_cons_zero,List.set_cons_succ]
      refine wpAnyH_take (i:=9) (v:=?_) rfl (by kernel_rfl) (by kernel_rfl) (by kernel_rfl) (fun _ _ _ h=>h) (Or.inl ⟨by kernel_rfl,?_⟩) (by assumption) ?_
      rotate_left
      ·intro w hSw; (try dsimp only at hSw); go_simp; with_reducible rfl
      try simp only [List.getElem_toArray,List.getElem_cons_succ,List.getElem_cons_zero,Act.put,List.setIfInBounds_toArray,List.set_cons_zero,List.set_cons_succ]
      refine wpAnyH_done (by kernel_rfl) ?_ _
      try dsimp only [Exit.then]
      go_wp2_with fail
      go_meet
      case rel=>first | exact ⟨congrArg Value.bool hk.symm,H12A.out W5 _ hb5a⟩ | exact ⟨congrArg Value.bool hk.symm,H12B.out W5 _ _ _ _ _ hb5b⟩
     ·go_simp
      refine hK.out _ _ ?_ (fun hHeld=>?_)
      ·first | exact ⟨q1a _,q2a _⟩ | exact ⟨y1a _,hza _⟩
      clear hK K
      try simp only [List.getElem_toArray,List.getElem_cons_succ,List.getElem_cons_zero,Act.put,List.setIfInBounds_toArray,List.set_cons_zero,List.set_cons_succ]
      refine wpAnyH_ready (rs:=[3]) (by kernel_rfl) (by simp) ?_
      refine AllReadyH.cons rfl (fun K hK=>?_) AllReadyH.nil
      go_simp
      refine hK.out _ _ ?_ (fun hHeld=>?_)
      ·exact hHeld
      clear hK K
      try simp only [List.getElem_toArray,List.getElem_cons_succ,List.getElem_cons_zero,Act.put,List.setIfInBounds_toArray,List.set_cons_zero,List.set_cons_succ]
      refine wpAnyH_take (i:=4) (v:=?_) rfl (by kernel_rfl) (by kernel_rfl) (by kernel_rfl) (fun _ _ _ h=>h) (Or.inl ⟨by kernel_rfl,?_⟩) (by assumption) ?_
      rotate_left
      ·intro w hSw; (try dsimp only at hSw); go_simp; with_reducible rfl
      try simp only [List.getElem_toArray,List.getElem_cons_succ,List.getElem_cons_zero,Act.put,List.setIfInBounds_toArray,List.set_cons_zero,List.set_cons_succ]
      refine wpAnyH_take (i:=5) (v:=?_) rfl (by kernel_rfl) (by kernel_rfl) (by kernel_rfl) (fun _ _ _ h=>h) (Or.inl ⟨by kernel_rfl,?_⟩) (by assumption) ?_
      rotate_left
      ·intro w hSw; (try dsimp only at hSw); go_simp; with_reducible rfl
      try simp only [List.getElem_toArray,List.getElem_cons_succ,List.getElem_cons_zero,Act.put,List.setIfInBounds_toArray,List.set_cons_zero,List.set_cons_succ]
      refine wpAnyH_take (i:=6) (v:=?_) rfl (by kernel_rfl) (by kernel_rfl) (by kernel_rfl) (fun _ _ _ h=>h) (Or.inl ⟨by kernel_rfl,?_⟩) (by assumption) ?_
      rotate_left
      ·intro w hSw; (try dsimp only at hSw); go_simp; with_reducible rfl
      try simp only [List.getElem_toArray,List.getElem_cons_succ,List.getElem_cons_zero,Act.put,List.setIfInBounds_toArray,List.set_cons_zero,List.set_cons_succ]
      refine wpAnyH_ready (rs:=[8]) (by kernel_rfl) (by simp) ?_
      refine AllReadyH.cons rfl (fun K hK=>?_) AllReadyH.nil
      go_simp
      refine hK.out _ _ ?_ (fun hHeld=>?_)
      ·first | exact ⟨q1a _,q2a _⟩ | exact ⟨(set5_far _ hne5 _ _ _ _ _ _).trans r1,Nat.lt_of_lt_of_eq r2 (set5_size _ _ _ _ _ _ _).symm⟩
      clear hK K
      try simp only [List.getElem_toArray,List.getElem_cons_succ,List.getElem_cons_zero,Act.put,List.setIfInBounds_toArray,List.set_cons_zero,List.set_cons_succ]
      refine wpAnyH_take (i:=9) (v:=?_) rfl (by kernel_rfl) (by kernel_rfl) (by kernel_rfl) (fun _ _ _ h=>h) (Or.inl ⟨by kernel_rfl,?_⟩) (by assumption) ?_
      rotate_left
      ·intro w hSw; (try dsimp only at hSw); go_simp; with_reducible rfl
      try simp only [List.getElem_toArray,List.getElem_cons_succ,List.getElem_cons_zero,Act.put,List.setIfInBounds_toArray,List.set_cons_zero,List.set_cons_succ]
      refine wpAnyH_done (by kernel_rfl) ?_ _
      try dsimp only [Exit.then]
      go_wp2_with fail
      go_meet
      case rel=>first | exact ⟨congrArg Value.bool hk.symm,H12A.out W5 _ hb5a⟩ | exact ⟨congrArg Value.bool hk.symm,H12B.out W5 _ _ _ _ _ hb5b⟩
    ·go_simp
     refine hK.out _ _ ?_ (fun hHeld=>?_)
     ·first | exact ⟨q1a _,q2a _⟩ | exact ⟨y1a _,hza _⟩
     clear hK K
     try simp only [List.getElem_toArray,List.getElem_cons_succ,List.getElem_cons_zero,Act.put,List.setIfInBounds_toArray,List.set_cons_zero,List.set_cons_succ]
     refine wpAnyH_ready (rs:=[0]) (by kernel_rfl) (by simp) ?_
     refine AllReadyH.cons rfl (fun K hK=>?_) AllReadyH.nil
     go_simp
     first
     | (refine (ops_no we w.heap.size o hk y1 hzd).mono ?_; rintro e W5 ⟨M5,rfl,q1,q2,hb5a,l1,l2,q1a,q2a⟩)
     | (refine (ops_no _ w.heap.size o hk y1b hzb).mono ?_; rintro e W5 ⟨M5,rfl,r1,r2,hb5b,l1,l2,r1a,r2a⟩; have z0:=(hb5b.cell (p:=⟨we.heap.size,0,none⟩) hlz).trans HZ.out.1; have g0:=(hb5b.frozen (p:=⟨we.heap.size,0,none⟩) hlz).trans HF.out.1; have z1:=(hb5b.cell (p:=⟨we.heap.size,1,none⟩) hlz).trans HZ.out.2.1; have g1:=(hb5b.frozen (p:=⟨we.heap.size,1,none⟩) hlz).trans HF.out.2.1; have z2:=(hb5b.cell (p:=⟨we.heap.size,2,none⟩) hlz).trans HZ.out.2.2.1; have g2:=(hb5b.frozen (p:=⟨we.heap.size,2,none⟩) hlz).trans HF.out.2.2.1; have z3:=(hb5b.cell (p:=⟨we.heap.size,3,none⟩) hlz).trans HZ.out.2.2.2.1; have g3:=(hb5b.frozen (p:=⟨we.heap.size,3,none⟩) hlz).trans HF.out.2.2.2.1; have z4:=(hb5b.cell (p:=⟨we.heap.size,4,none⟩) hlz).trans HZ.out.2.2.2.2; have g4:=(hb5b.frozen (p:=⟨we.heap.size,4,none⟩) hlz).trans HF.out.2.2.2.2)
     try dsimp only
     refine hK.out _ _ ?_ (fun hHeld=>?_)
     ·first | exact ⟨q1,q2⟩ | exact ⟨r1,r2⟩
     clear hK K
     try simp only [List.getElem_toArray,List.getElem_cons_succ,List.getElem_cons_zero,Act.put,List.setIfInBounds_toArray,List.set_cons_zero,List.set_cons_succ]
     refine wpAnyH_ready (rs:=[3]) (by kernel_rfl) (by simp) ?_
     refine AllReadyH.cons rfl (fun K hK=>?_) AllReadyH.nil
     go_simp
     refine hK.out _ _ ?_ (fun hHeld=>?_)
     ·exact hHeld
     clear hK K
     try simp only [List.getElem_toArray,List.getElem_cons_succ,List.getElem_cons_zero,Act.put,List.setIfInBounds_toArray,List.set_cons_zero,List.set_cons_succ]
     refine wpAnyH_take (i:=4) (v:=?_) rfl (by kernel_rfl) (by kernel_rfl) (by kernel_rfl) (fun _ _ _ h=>h) (Or.inl ⟨by kernel_rfl,?_⟩) (by assumption) ?_
     rotate_left
     ·intro w hSw; (try dsimp only at hSw); go_simp; with_reducible rfl
     try simp only [List.getElem_toArray,List.getElem_cons_succ,List.getElem_cons_zero,Act.put,List.setIfInBounds_toArray,List.set_cons_zero,List.set_cons_succ]
     refine wpAnyH_take (i:=5) (v:=?_) rfl (by kernel_rfl) (by kernel_rfl) (by kernel_rfl) (fun _ _ _ h=>h) (Or.inl ⟨by kernel_rfl,?_⟩) (by assumption) ?_
     rotate_left
     ·intro w hSw; (try dsimp only at hSw); go_simp; with_reducible rfl
     try simp only [List.getElem_toArray,List.getElem_cons_succ,List.getElem_cons_zero,Act.put,List.setIfInBounds_toArray,List.set_cons_zero,List.set_cons_succ]
     refine wpAnyH_take (i:=6) (v:=?_) rfl (by kernel_rfl) (by kernel_rfl) (by kernel_rfl) (fun _ _ _ h=>h) (Or.inl ⟨by kernel_rfl,?_⟩) (by assumption) ?_
     rotate_left
     ·intro w hSw; (try dsimp only at hSw); go_simp; with_reducible rfl
     try simp only [List.getElem_toArray,List.getElem_cons_succ,List.getElem_cons_zero,Act.put,List.setIfInBounds_toArray,List.set_cons_zero,List.set_cons_succ]
     refine wpAnyH_ready (rs:=[8]) (by kernel_rfl) (by simp) ?_
     refine AllReadyH.cons rfl (fun K hK=>?_) AllReadyH.nil
     go_simp
     refine hK.out _ _ ?_ (fun hHeld=>?_)
     ·first | exact ⟨q1a _,q2a _⟩ | exact ⟨(set5_far _ hne5 _ _ _ _ _ _).trans r1,Nat.lt_of_lt_of_eq r2 (set5_size _ _ _ _ _ _ _).symm⟩
     clear hK K
     try simp only [List.getElem_toArray,List.getElem_cons_succ,List.getElem_cons_zero,Act.put,List.setIfInBounds_toArray,List.set_cons_zero,List.set_cons_succ]
     refine wpAnyH_take (i:=9) (v:=?_) rfl (by kernel_rfl) (by kernel_rfl) (by kernel_rfl) (fun _ _ _ h=>h) (Or.inl ⟨by kernel_rfl,?_⟩) (by assumption) ?_
     rotate_left
     ·intro w hSw; (try dsimp only at hSw); go_simp; with_reducible rfl
     try simp only [List.getElem_toArray,List.getElem_cons_succ,List.getElem_cons_zero,Act.put,List.setIfInBounds_toArray,List.set_cons_zero,List.set_cons_succ]
     refine wpAnyH_done (by kernel_rfl) ?_ _
     try dsimp only [Exit.then]
     go_wp2_with fail
     go_meet
     case rel=>first | exact ⟨congrArg Value.bool hk.symm,H12A.out W5 _ hb5a⟩ | exact ⟨congrArg Value.bool hk.symm,H12B.out W5 _ _ _ _ _ hb5b⟩
   | true=>
    refine wpAnyH_take (i:=1) (v:=?_) rfl (by kernel_rfl) (by kernel_rfl) (by kernel_rfl) (fun _ _ _ h=>h) (Or.inl ⟨by kernel_rfl,?_⟩) (by assumption) ?_
    rotate_left
    ·intro w hSw; (try dsimp only at hSw); go_simp; with_reducible rfl
    try simp only [List.getElem_toArray,List.getElem_cons_succ,List.getElem_cons_zero,Act.put,List.setIfInBounds_toArray,List.set_cons_zero,List.set_cons_succ]
    refine wpAnyH_take (i:=2) (v:=?_) rfl (by kernel_rfl) (by kernel_rfl) (by kernel_rfl) (fun _ _ _ h=>h) (Or.inl ⟨by kernel_rfl,?_⟩) (by assumption) ?_
    rotate_left
    ·intro w hSw; (try dsimp only at hSw); go_simp; with_reducible rfl
    try simp only [List.getElem_toArray,List.getElem_cons_succ,List.getElem_cons_zero,Act.put,List.setIfInBounds_toArray,List.set_cons_zero,List.set_cons_succ]
    refine wpAnyH_ready (rs:=[0,7]) (by kernel_rfl) (by simp) ?_
    refine (AllReadyH.cons rfl (fun K hK=>?_) (AllReadyH.cons rfl (fun K hK=>?_) AllReadyH.nil))
    ·go_simp
     first
     | (refine (ops_yes we w.heap.size o hk y1 hzd).mono ?_; rintro e W5 ⟨M5,s5,p5,a5,r5,g5,c5,rfl,q1,q2,hb5a,l1,l2,q1a,q2a⟩)
     | (refine (ops_yes _ w.heap.size o hk y1b hzb).mono ?_; rintro e W5 ⟨M5,s5,p5,a5,r5,g5,c5,rfl,r1,r2,hb5b,l1,l2,r1a,r2a⟩; have z0:=(hb5b.cell (p:=⟨we.heap.size,0,none⟩) hlz).trans HZ.out.1; have g0:=(hb5b.frozen (p:=⟨we.heap.size,0,none⟩) hlz).trans HF.out.1; have z1:=(hb5b.cell (p:=⟨we.heap.size,1,none⟩) hlz).trans HZ.out.2.1; have g1:=(hb5b.frozen (p:=⟨we.heap.size,1,none⟩) hlz).trans HF.out.2.1; have z2:=(hb5b.cell (p:=⟨we.heap.size,2,none⟩) hlz).trans HZ.out.2.2.1; have g2:=(hb5b.frozen (p:=⟨we.heap.size,2,none⟩) hlz).trans HF.out.2.2.1; have z3:=(hb5b.cell (p:=⟨we.heap.size,3,none⟩) hlz).trans HZ.out.2.2.2.1; have g3:=(hb5b.frozen (p:=⟨we.heap.size,3,none⟩) hlz).trans HF.out.2.2.2.1; have z4:=(hb5b.cell (p:=⟨we.heap.size,4,none⟩) hlz).trans HZ.out.2.2.2.2; have g4:=(hb5b.frozen (p:=⟨we.heap.size,4,none⟩) hlz).trans HF.out.2.2.2.2)
     try dsimp only
     refine hK.out _ _ ?_ (fun hHeld=>?_)
     ·first | exact ⟨q1,q2⟩ | exact ⟨r1,r2⟩
     clear hK K
     try simp only [List.getElem_toArray,List.getElem_cons_succ,List.getElem_cons_zero,Act.put,List.setIfInBounds_toArray,List.set_cons_zero,List.set_cons_succ]
     refine wpAnyH_ready (rs:=[3,7]) (by kernel_rfl) (by simp) ?_
     refine (AllReadyH.cons rfl (fun K hK=>?_) (AllReadyH.cons rfl (fun K hK=>?_) AllReadyH.nil))
     ·go_simp
      refine hK.out _ _ ?_ (fun hHeld=>?_)
      ·exact hHeld
      clear hK K
      try simp only [List.getElem_toArray,List.getElem_cons_succ,List.getElem_cons_zero,Act.put,List.setIfInBounds_toArray,List.set_cons_zero,List.set_cons_succ]
      refine wpAnyH_take (i:=4) (v:=?_) rfl (by kernel_rfl) (by kernel_rfl) (by kernel_rfl) (fun _ _ _ h=>h) (Or.inl ⟨by kernel_rfl,?_⟩) (by assumption) ?_
      rotate_left
      ·intro w hSw; (try dsimp only at hSw); go_simp; with_reducible rfl
      try simp only [List.getElem_toArray,List.getElem_cons_succ,List.getElem_cons_zero,Act.put,List.setIfInBounds_toArray,List.set_cons_zero,List.set_cons_succ]
      refine wpAnyH_take (i:=5) (v:=?_) rfl (by kernel_rfl) (by kernel_rfl) (by kernel_rfl) (fun _ _ _ h=>h) (Or.inl ⟨by kernel_rfl,?_⟩) (by assumption) ?_
      rotate_left
      ·intro w hSw; (try dsimp only at hSw); go_simp; with_reducible rfl
      try simp only [List.getElem_toArray,List.getElem_cons_succ,List.getElem_cons_zero,Act.put,List.setIfInBounds_toArray,List.set_cons_zero,List.set_cons_succ]
      refine wpAnyH_take (i:=6) (v:=?_) rfl (by kernel_rfl) (by kernel_rfl) (by kernel_rfl) (fun _ _ _ h=>h) (Or.inl ⟨by kernel_rfl,?_⟩) (by assumption) ?_
      rotate_left
      ·intro w hSw; (try dsimp only at hSw); go_simp; with_reducible rfl
      try simp only [List.getElem_toArray,List.getElem_cons_succ,List.getElem_cons_zero,Act.put,List.setIfInBounds_toArray,List.set_cons_zero,List.set_cons_succ]
      refine wpAnyH_ready (rs:=[7]) (by kernel_rfl) (by simp) ?_
      refine AllReadyH.cons rfl (fun K hK=>?_) AllReadyH.nil
      go_simp
      refine hK.out _ _ ?_ (fun hHeld=>?_)
      ·first | exact ⟨q1a _,q2a _⟩ | exact ⟨y1a _,hza _⟩
      clear hK K
      try simp only [List.getElem_toArray,List.getElem_cons_succ,List.getElem_cons_zero,Act.put,List.setIfInBounds_toArray,List.set_cons_zero,List.set_cons_succ]
      refine wpAnyH_ready (rs:=[8]) (by kernel_rfl) (by simp) ?_
      refine AllReadyH.cons rfl (fun K hK=>?_) AllReadyH.nil
      go_simp
      refine hK.out _ _ ?_ (fun hHeld=>?_)
      ·first | exact ⟨q1a _,q2a _⟩ | exact ⟨(set5_far _ hne5 _ _ _ _ _ _).trans r1,Nat.lt_of_lt_of_eq r2 (set5_size _ _ _ _ _ _ _).symm⟩
      clear hK K
      try simp only [List.getElem_toArray,List.getElem_cons_succ,List.getElem_cons_zero,Act.put,List.setIfInBounds_toArray,List.set_cons_zero,List.set_cons_succ]
      refine wpAnyH_take (i:=9) (v:=?_) rfl (by kernel_rfl) (by kernel_rfl) (by kernel_rfl) (fun _ _ _ h=>h) (Or.inl ⟨by kernel_rfl,?_⟩) (by assumption) ?_
      rotate_left
      ·intro w hSw; (try dsimp only at hSw); go_simp; with_reducible rfl
      try simp only [List.getElem_toArray,List.getElem_cons_succ,List.getElem_cons_zero,Act.put,List.setIfInBounds_toArray,List.set_cons_zero,List.set_cons_succ]
      refine wpAnyH_done (by kernel_rfl) ?_ _
      try dsimp only [Exit.then]
      go_wp2_with fail
      go_meet
      case rel=>first | exact ⟨congrArg Value.bool hk.symm,H12A.out W5 _ hb5a⟩ | exact ⟨congrArg Value.bool hk.symm,H12B.out W5 _ _ _ _ _ hb5b⟩
     ·go_simp
      refine hK.out _ _ ?_ (fun hHeld=>?_)
      ·first | exact ⟨q1a _,q2a _⟩ | exact ⟨y1a _,hza _⟩
      clear hK K
      try simp only [List.getElem_toArray,List.getElem_cons_succ,List.getElem_cons_zero,Act.put,List.setIfInBounds_toArray,List.set_cons_zero,List.set_cons_succ]
      refine wpAnyH_ready (rs:=[3]) (by kernel_rfl) (by simp) ?_
      refine AllReadyH.cons rfl (fun K hK=>?_) AllReadyH.nil
      go_simp
      refine hK.out _ _ ?_ (fun hHeld=>?_)
      ·exact hHeld
      clear hK K
      try simp only [List.getElem_toArray,List.getElem_cons_succ,List.getElem_cons_zero,Act.put,List.setIfInBounds_toArray,List.set_cons_zero,List.set_cons_succ]
      refine wpAnyH_take (i:=4) (v:=?_) rfl (by kernel_rfl) (by kernel_rfl) (by kernel_rfl) (fun _ _ _ h=>h) (Or.inl ⟨by kernel_rfl,?_⟩) (by assumption) ?_
      rotate_left
      ·intro w hSw; (try dsimp only at hSw); go_simp; with_reducible rfl
      try simp only [List.getElem_toArray,List.getElem_cons_succ,List.getElem_cons_zero,Act.put,List.setIfInBounds_toArray,List.set_cons_zero,List.set_cons_succ]
      refine wpAnyH_take (i:=5) (v:=?_) rfl (by kernel_rfl) (by kernel_rfl) (by kernel_rfl) (fun _ _ _ h=>h) (Or.inl ⟨by kernel_rfl,?_⟩) (by assumption) ?_
      rotate_left
      ·intro w hSw; (try dsimp only at hSw); go_simp; with_reducible rfl
      try simp only [List.getElem_toArray,List.getElem_cons_succ,List.getElem_cons_zero,Act.put,List.setIfInBounds_toArray,List.set_cons_zero,List.set_cons_succ]
      refine wpAnyH_take (i:=6) (v:=?_) rfl (by kernel_rfl) (by kernel_rfl) (by kernel_rfl) (fun _ _ _ h=>h) (Or.inl ⟨by kernel_rfl,?_⟩) (by assumption) ?_
      rotate_left
      ·intro w hSw; (try dsimp only at hSw); go_simp; with_reducible rfl
      try simp only [List.getElem_toArray,List.getElem_cons_succ,List.getElem_cons_zero,Act.put,List.setIfInBounds_toArray,List.set_cons_zero,List.set_cons_succ]
      refine wpAnyH_ready (rs:=[8]) (by kernel_rfl) (by simp) ?_
      refine AllReadyH.cons rfl (fun K hK=>?_) AllReadyH.nil
      go_simp
      refine hK.out _ _ ?_ (fun hHeld=>?_)
      ·first | exact ⟨q1a _,q2a _⟩ | exact ⟨(set5_far _ hne5 _ _ _ _ _ _).trans r1,Nat.lt_of_lt_of_eq r2 (set5_size _ _ _ _ _ _ _).symm⟩
      clear hK K
      try simp only [List.getElem_toArray,List.getElem_cons_succ,List.getElem_cons_zero,Act.put,List.setIfInBounds_toArray,List.set_cons_zero,List.set_cons_succ]
      refine wpAnyH_take (i:=9) (v:=?_) rfl (by kernel_rfl) (by kernel_rfl) (by kernel_rfl) (fun _ _ _ h=>h) (Or.inl ⟨by kernel_rfl,?_⟩) (by assumption) ?_
      rotate_left
      ·intro w hSw; (try dsimp only at hSw); go_simp; with_reducible rfl
      try simp only [List.getElem_toArray,List.getElem_cons_succ,List.getElem_cons_zero,Act.put,List.setIfInBounds_toArray,List.set_cons_zero,List.set_cons_succ]
      refine wpAnyH_done (by kernel_rfl) ?_ _
      try dsimp only [Exit.then]
      go_wp2_with fail
      go_meet
      case rel=>first | exact ⟨congrArg Value.bool hk.symm,H12A.out W5 _ hb5a⟩ | exact ⟨congrArg Value.bool hk.symm,H12B.out W5 _ _ _ _ _ hb5b⟩
    ·go_simp
     refine hK.out _ _ ?_ (fun hHeld=>?_)
     ·first | exact ⟨q1a _,q2a _⟩ | exact ⟨y1a _,hza _⟩
     clear hK K
     try simp only [List.getElem_toArray,List.getElem_cons_succ,List.getElem_cons_zero,Act.put,List.setIfInBounds_toArray,List.set_cons_zero,List.set_cons_succ]
     refine wpAnyH_ready (rs:=[0]) (by kernel_rfl) (by simp) ?_
     refine AllReadyH.cons rfl (fun K hK=>?_) AllReadyH.nil
     go_simp
     first
     | (refine (ops_yes we w.heap.size o hk y1 hzd).mono ?_; rintro e W5 ⟨M5,s5,p5,a5,r5,g5,c5,rfl,q1,q2,hb5a,l1,l2,q1a,q2a⟩)
     | (refine (ops_yes _ w.heap.size o hk y1b hzb).mono ?_; rintro e W5 ⟨M5,s5,p5,a5,r5,g5,c5,rfl,r1,r2,hb5b,l1,l2,r1a,r2a⟩; have z0:=(hb5b.cell (p:=⟨we.heap.size,0,none⟩) hlz).trans HZ.out.1; have g0:=(hb5b.frozen (p:=⟨we.heap.size,0,none⟩) hlz).trans HF.out.1; have z1:=(hb5b.cell (p:=⟨we.heap.size,1,none⟩) hlz).trans HZ.out.2.1; have g1:=(hb5b.frozen (p:=⟨we.heap.size,1,none⟩) hlz).trans HF.out.2.1; have z2:=(hb5b.cell (p:=⟨we.heap.size,2,none⟩) hlz).trans HZ.out.2.2.1; have g2:=(hb5b.frozen (p:=⟨we.heap.size,2,none⟩) hlz).trans HF.out.2.2.1; have z3:=(hb5b.cell (p:=⟨we.heap.size,3,none⟩) hlz).trans HZ.out.2.2.2.1; have g3:=(hb5b.frozen (p:=⟨we.heap.size,3,none⟩) hlz).trans HF.out.2.2.2.1; have z4:=(hb5b.cell (p:=⟨we.heap.size,4,none⟩) hlz).trans HZ.out.2.2.2.2; have g4:=(hb5b.frozen (p:=⟨we.heap.size,4,none⟩) hlz).trans HF.out.2.2.2.2)
     try dsimp only
     refine hK.out _ _ ?_ (fun hHeld=>?_)
     ·first | exact ⟨q1,q2⟩ | exact ⟨r1,r2⟩
     clear hK K
     try simp only [List.getElem_toArray,List.getElem_cons_succ,List.getElem_cons_zero,Act.put,List.setIfInBounds_toArray,List.set_cons_zero,List.set_cons_succ]
     refine wpAnyH_ready (rs:=[3]) (by kernel_rfl) (by simp) ?_
     refine AllReadyH.cons rfl (fun K hK=>?_) AllReadyH.nil
     go_simp
     refine hK.out _ _ ?_ (fun hHeld=>?_)
     ·exact hHeld
     clear hK K
     try simp only [List.getElem_toArray,List.getElem_cons_succ,List.getElem_cons_zero,Act.put,List.setIfInBounds_toArray,List.set_cons_zero,List.set_cons_succ]
     refine wpAnyH_take (i:=4) (v:=?_) rfl (by kernel_rfl) (by kernel_rfl) (by kernel_rfl) (fun _ _ _ h=>h) (Or.inl ⟨by kernel_rfl,?_⟩) (by assumption) ?_
     rotate_left
     ·intro w hSw; (try dsimp only at hSw); go_simp; with_reducible rfl
     try simp only [List.getElem_toArray,List.getElem_cons_succ,List.getElem_cons_zero,Act.put,List.setIfInBounds_toArray,List.set_cons_zero,List.set_cons_succ]
     refine wpAnyH_take (i:=5) (v:=?_) rfl (by kernel_rfl) (by kernel_rfl) (by kernel_rfl) (fun _ _ _ h=>h) (Or.inl ⟨by kernel_rfl,?_⟩) (by assumption) ?_
     rotate_left
     ·intro w hSw; (try dsimp only at hSw); go_simp; with_reducible rfl
     try simp only [List.getElem_toArray,List.getElem_cons_succ,List.getElem_cons_zero,Act.put,List.setIfInBounds_toArray,List.set_cons_zero,List.set_cons_succ]
     refine wpAnyH_take (i:=6) (v:=?_) rfl (by kernel_rfl) (by kernel_rfl) (by kernel_rfl) (fun _ _ _ h=>h) (Or.inl ⟨by kernel_rfl,?_⟩) (by assumption) ?_
     rotate_left
     ·intro w hSw; (try dsimp only at hSw); go_simp; with_reducible rfl
     try simp only [List.getElem_toArray,List.getElem_cons_succ,List.getElem_cons_zero,Act.put,List.setIfInBounds_toArray,List.set_cons_zero,List.set_cons_succ]
     refine wpAnyH_ready (rs:=[8]) (by kernel_rfl) (by simp) ?_
     refine AllReadyH.cons rfl (fun K hK=>?_) AllReadyH.nil
     go_simp
     refine hK.out _ _ ?_ (fun hHeld=>?_)
     ·first | exact ⟨q1a _,q2a _⟩ | exact ⟨(set5_far _ hne5 _ _ _ _ _ _).trans r1,Nat.lt_of_lt_of_eq r2 (set5_size _ _ _ _ _ _ _).symm⟩
     clear hK K
     try simp only [List.getElem_toArray,List.getElem_cons_succ,List.getElem_cons_zero,Act.put,List.setIfInBounds_toArray,List.set_cons_zero,List.set_cons_succ]
     refine wpAnyH_take (i:=9) (v:=?_) rfl (by kernel_rfl) (by kernel_rfl) (by kernel_rfl) (fun _ _ _ h=>h) (Or.inl ⟨by kernel_rfl,?_⟩) (by assumption) ?_
     rotate_left
     ·intro w hSw; (try dsimp only at hSw); go_simp; with_reducible rfl
     try simp only [List.getElem_toArray,List.getElem_cons_succ,List.getElem_cons_zero,Act.put,List.setIfInBounds_toArray,List.set_cons_zero,List.set_cons_succ]
     refine wpAnyH_done (by kernel_rfl) ?_ _
     try dsimp only [Exit.then]
     go_wp2_with fail
     go_meet
     case rel=>first | exact ⟨congrArg Value.bool hk.symm,H12A.out W5 _ hb5a⟩ | exact ⟨congrArg Value.bool hk.symm,H12B.out W5 _ _ _ _ _ hb5b⟩
  case rest=>
   obtain ⟨rfl,hbx,x0,x1,x2,x3⟩:=hcut
   have hzx:w.heap.size<wc.heap.size:=by
    refine Decidable.byContradiction fun e=>?_
    have:=block_lt_of_cell x0
    exact e this
   cases hk:knownB o with
   | true=>
    have hr:=hk
    unfold knownB at hr
    simp only [Bool.and_eq_true,decide_eq_true_eq] at hr
    have HNO:Hid (chkN 4 o ⟨#[]⟩ 0 2=0):=Lib.hid (by unfold chkN; rw [if_neg (by omega),if_neg (by simp [argsN,ByteArray.size]),if_neg (by omega),if_neg (by simp),if_neg (by omega)])
    clear hr
    go_wp2_with fail
    refine bodyPost_ret (results_tmp rfl _ _ _) rfl ?_
    exact ⟨by rw [HNO.out]; rfl,hbx⟩
   | false=>
    have hr:¬ (3≤o∧o≤15):=fun ⟨q1,q2⟩=>by unfold knownB at hk; rw [decide_eq_true q1,decide_eq_true q2] at hk; cases hk
    have HNO:Hid (chkN 4 o ⟨#[]⟩ 0 2=8):=Lib.hid (by unfold chkN; rw [if_neg (by omega),if_neg (by simp [argsN,ByteArray.size]),if_neg (by omega),if_neg (by simp),if_pos (.inr ⟨rfl,by omega⟩)])
    clear hr
    go_wp2_with fail
    refine bodyPost_ret (results_tmp rfl _ _ _) rfl ?_
    exact ⟨by rw [HNO.out]; rfl,hbx⟩
end Go.Proofs.YtmbffkemfepekaaGreatDoor

namespace Go.Proofs.YtmbffkemfepekaaGreatDoor
open Go.RowKit
theorem check_any {w:World} {B:Nat} {vs:List Value} {e:Ex} (h:LiesE w B vs e) (w':World):Calls Tryz.prog 68 #[.agg vs.toArray] w' (Ret (.int .i64 (chk1 e:Nat)) w'):=by
 obtain ⟨A,c,rfl,bd,-⟩:=h.arg
 rw [chk1_N]
 have hn:=bd.2.2.2.1
 generalize e.kind=k
 generalize e.op=o
 generalize e.name=n at hn ⊢
 generalize e.val=v
 generalize e.args.length=m
 by_cases hk:k<1∨4<k
 ·have:chkN k o n v m=8:=by unfold chkN; rw [if_pos hk]
  rw [this]
  exact check_out k o n v A m c hk w'
 ·have h4:k=1∨k=2∨k=3∨k=4:=by omega
  rcases h4 with rfl | rfl | rfl | rfl
  ·exact check_k1 o n v A m c hn w'
  ·exact check_k2 o n v A m c hn w'
  ·exact check_k3 o n v A m c hn w'
  ·exact check_k4 o n v A m c hn w'
end Go.Proofs.YtmbffkemfepekaaGreatDoor
