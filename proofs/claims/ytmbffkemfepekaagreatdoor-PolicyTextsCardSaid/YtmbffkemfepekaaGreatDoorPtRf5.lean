/- nurseryref09.CheckBindings, walked. Conditions: the bindings lie in memory. -/
import Derived.Test.YtmbffkemfepekaaGreatDoorPtRf1
import Derived.Test.YtmbffkemfepekaaGreatDoorPtBdK
import Derived.Test.YtmbffkemfepekaaGreatDoorPtPolL
namespace Go.Proofs.YtmbffkemfepekaaGreatDoor
open Go.RowKit Go.Sort
/-- An error number comes back: 0 exactly if V. -/
def RetC (V:Prop) (w:World):Ending→World→Prop:=fun e W=>Below w.heap.size w W∧∃ f:Nat,e=.returned (.int .i64 (f:Nat))∧(f=0↔V)
/-- The first bindings are valid. -/
structure OkTo (l:List Bd) (j:Nat):Prop where
 nm:∀ (i:Nat) (h:i<l.length),i<j→nmB l[i].name=true
 inc:∀ (i:Nat) (h:i+1<l.length),i+1<j→Op.bytesLess l[i].name.toList l[i+1].name.toList=true
 ty:∀ (i:Nat) (h:i<l.length),i<j→(l[i].ty=1∧-1099511627776≤l[i].val∧l[i].val≤1099511627776)∨(l[i].ty=2∧0≤l[i].val∧l[i].val≤1)
theorem OkTo.ok {l:List Bd} (h:OkTo l l.length) (hl:l.length≤64):BdOk l:=⟨hl,fun i hi=>h.nm i hi hi,fun i hi=>h.inc i hi hi,fun i hi=>h.ty i hi hi⟩
theorem OkTo.step {l:List Bd} {j:Nat} (h:OkTo l j) (hj:j<l.length) (h1:nmB l[j].name=true) (h2:∀ h0:0<j,Op.bytesLess (l[j - 1]'(by omega)).name.toList l[j].name.toList=true)
  (h3:(l[j].ty=1∧-1099511627776≤l[j].val∧l[j].val≤1099511627776)∨(l[j].ty=2∧0≤l[j].val∧l[j].val≤1)):OkTo l (j+1):=by
 refine ⟨fun i hi hij=>?_,fun i hi hij=>?_,fun i hi hij=>?_⟩
 ·by_cases e:i=j
  ·subst e; exact h1
  ·exact h.nm i hi (by omega)
 ·by_cases e:i+1=j
  ·subst e
   have:=h2 (by omega)
   simpa using this
  ·exact h.inc i hi (by omega)
 ·by_cases e:i=j
  ·subst e; exact h3
  ·exact h.ty i hi (by omega)
set_option maxRecDepth 100000 in
set_option maxHeartbeats 1600000 in
theorem rbind_long (bs:List Bd) (A:Option Addr) (c:Nat) (w:World) (h:64<bs.length):Calls Tryz.prog 106 #[.slice A bs.length c] w (RetC (BdOk bs) w):=by
 have hV:¬ BdOk bs:=fun V=>by have:=V.len; omega
 have HV:=Lib.hid hV
 have e1:decide ((bs.length:Int) > 64)=true:=decide_eq_true (by omega)
 have e2:decide (64<(bs.length:Int))=true:=decide_eq_true (by omega)
 have e3:decide (64<bs.length)=true:=decide_eq_true h
 unfold RetC
 clear hV
 go_enter Tryz.func106,Tryz.ntmps106
 go_wp2_with fail
 go_ret
 exact ⟨Below.refl _ _,1,rfl,fun h=>by omega,fun h=>absurd h HV.out⟩
set_option maxRecDepth 100000 in
set_option maxHeartbeats 12800000 in
theorem rbind_any (bs:List Bd) (A:Option Addr) (c B:Nat) (w:World) (h:RdB w B A bs) (hB:B≤w.heap.size) :
  Calls Tryz.prog 106 #[.slice A bs.length c] w (RetC (BdOk bs) w):=by
 by_cases h64:64<bs.length
 ·exact rbind_long bs A c w h64
 have H:=Lib.hid h
 have e1:decide ((bs.length:Int) > 64)=false:=decide_eq_false (by omega)
 have e2:decide (64<(bs.length:Int))=false:=decide_eq_false (by omega)
 have e3:decide (64<bs.length)=false:=decide_eq_false h64
 have HL:=Lib.hid h64
 unfold RetC
 clear h
 go_enter Tryz.func106,Tryz.ntmps106
 go_wp2_with fail
 clear e1 e2 e3
 go_loopw [2,3,4] (fun r i _ wr=>r=.int .i64 0∧∃ j:Nat,i=.int .i64 (j:Nat)∧j≤bs.length∧Hid (OkTo bs j)∧Hid (Below w.heap.size w wr)) (fun _ i _ _=>bs.length - (intOf i).toNat)
 case atStart=>exact ⟨rfl,0,rfl,Nat.zero_le _,Lib.hid ⟨fun i hi h=>by omega,fun i hi h=>by omega,fun i hi h=>by omega⟩,Lib.hid (Below.refl _ _)⟩
 case round=>
  obtain ⟨rfl,j,rfl,hj,HOK,HB⟩:=hrel
  have hj0:(0:Int)≤(j:Int):=by omega
  have hwr1:IntKind.i64.wrap ((j:Int)+1)=(j:Int)+1:=by rw [IntKind.wrap_i64]; omega
  by_cases hlt:j<bs.length
  ·have hd1:decide ((j:Int)<(bs.length:Int))=true:=decide_eq_true (by omega)
   have hd2:decide (j<bs.length)=true:=decide_eq_true hlt
   have hjl:(j:Int)<(bs.length:Int):=by omega
   have hR:RdB wr B A bs:=Rd.below' H.out HB.out hB
   have HPREV:Hid (0<j→∃ b off:Nat,A=some ⟨b,off,none⟩∧wr.cell? ⟨b,off+(j - 1) * 3,none⟩=some (.string (bs[j - 1]'(by omega)).name)):=Lib.hid (fun h0=>by
    obtain ⟨b,off,e,_,y,-⟩:=hR.at_ (k:=j - 1) (by omega)
    exact ⟨b,off,e,y⟩)
   obtain ⟨b,off,rfl,hbB,y0,y1,y2⟩:=hR.at_ hlt
   have hO:=one_new wr #[.string bs[j].name,.int .i64 bs[j].ty,.int .i64 bs[j].val] 89
   have HNM:Hid (BdOk bs→nmB bs[j].name=true):=Lib.hid (fun V=>V.nm j hlt)
   have HTY:Hid (BdOk bs→(bs[j].ty=1∧-1099511627776≤bs[j].val∧bs[j].val≤1099511627776)∨(bs[j].ty=2∧0≤bs[j].val∧bs[j].val≤1)):=Lib.hid (fun V=>V.ty j hlt)
   have HINC:Hid (∀ (h0:0<j),BdOk bs→Op.bytesLess (bs[j - 1]'(by omega)).name.toList bs[j].name.toList=true):=Lib.hid (fun h0 V=>by
    have:=V.inc (j - 1) (by omega)
    simpa [show j - 1+1=j from by omega] using this)
   have HST:=Lib.hid (fun h1 h2 h3=>HOK.out.step hlt h1 h2 h3)
   generalize bs[j].name=nm at y0 hO HNM HINC HST
   generalize bs[j].ty=ty at y1 hO HTY HST
   generalize bs[j].val=vl at y2 hO HTY HST
   clear hR HOK
   go_upto_region 7 with fail
   generalize wr.alloc _=w4 at hO ⊢
   obtain ⟨x0,x1,x2⟩:=bx3 hO.fst
   have HIN:Hid (∀ d os,Calls Tryz.prog 149 #[.string nm] (grow (redrawn w4 d) os) (Ret (.bool (nmB nm)) (grow (redrawn w4 d) os))):=Lib.hid (fun d os=>(rname_any nm (grow (redrawn w4 d) os)).mono fun e W h=>⟨h.1,by rw [h.2]; exact Below.refl _ _⟩)
   unfold Ret at HIN
   have q0:=fun d os=>cell_regrown (w:=w4) x0 d os
   have q1:=fun d os=>cell_regrown (w:=w4) x1 d os
   have q2:=fun d os=>cell_regrown (w:=w4) x2 d os
   have HBW:Hid (Below w.heap.size w w4):=Lib.hid (HB.out.trans (hO.below.mono HB.out.size))
   have HXX:=Lib.hid (And.intro x0 (And.intro x1 x2))
   generalize nmB nm=nb at HIN HNM HST
   rcases Bool.eq_false_or_eq_true nb with hnb | hnb
   rotate_left
   ·subst hnb
    have HNO:Hid (¬ BdOk bs):=Lib.hid (fun V=>by have:=HNM.out V; simp at this)
    clear HNM HINC HST HTY hO y0 y1 y2 x0 x1 x2 HPREV
    refine wp_region_quiet_below (by kernel_rfl) (by kernel_rfl) ?_
    repeat (go_big_quiet_step (first | exact Calls.regrown_of (HIN.out _ _)))
    refine wpQuiet_nil ?_
    rintro _ ⟨pq,rfl⟩
    have hb9:=HBW.out.trans ((below_regrown w4 pq.d pq.os).mono HBW.out.size)
    have x0:=cell_regrown (w:=w4) HXX.out.1 pq.d pq.os
    have x1:=cell_regrown (w:=w4) HXX.out.2.1 pq.d pq.os
    have x2:=cell_regrown (w:=w4) HXX.out.2.2 pq.d pq.os
    generalize grow (redrawn w4 pq.d) pq.os=w9 at hb9 x0 x1 x2 ⊢
    have HB9:=Lib.hid hb9
    clear hb9 q0 q1 q2
    go_wp2_with fail
    go_ret
    exact ⟨HB9.out,1,rfl,fun h=>by omega,fun h=>absurd h HNO.out⟩
   subst hnb
   by_cases hj1:0<j
   ·have hd3:decide ((j:Int) > 0)=true:=decide_eq_true (by omega)
    have hd4:decide (0<(j:Int))=true:=decide_eq_true (by omega)
    have hd5:decide (0<j)=true:=decide_eq_true hj1
    obtain ⟨b',off',e',yp⟩:=HPREV.out hj1
    injection e' with e'
    injection e' with e1 e2 _
    subst e1 e2
    have HIN2:=Lib.hid (HINC.out hj1)
    have ypw:=(hO.below.cell (p:=⟨b,off+(j - 1) * 3,none⟩) (World.block_lt_of_cell? _ _ yp)).trans yp
    obtain ⟨np,hnp⟩:∃ np,(bs[j - 1]'(by omega)).name=np:=⟨_,rfl⟩
    have HNP:=Lib.hid hnp
    rw [hnp] at ypw HIN2
    have q3:=fun d os=>cell_regrown (w:=w4) ypw d os
    have hs1:IntKind.i64.wrap ((j:Int) - 1)=(j:Int) - 1:=by rw [IntKind.wrap_i64]; omega
    have hs2:(0:Int)≤(j:Int) - 1:=by omega
    have hs3:((j:Int) - 1).toNat=j - 1:=by omega
    have hs4:(j:Int) - 1<(bs.length:Int):=by omega
    clear yp ypw HPREV hnp
    generalize hls:Op.bytesLess np.toList nm.toList=ls at HIN2
    have HLS:=Lib.hid hls
    rcases Bool.eq_false_or_eq_true ls with hlb | hlb
    rotate_left
    ·subst hlb
     have HNO:Hid (¬ BdOk bs):=Lib.hid (fun V=>by have:=HIN2.out V; simp at this)
     clear HNM HINC HST HTY hO y0 y1 y2 x0 x1 x2 HIN2
     refine wp_region_quiet_below (by kernel_rfl) (by kernel_rfl) ?_
     repeat (go_big_quiet_step (first | exact Calls.regrown_of (HIN.out _ _)))
     refine wpQuiet_nil ?_
     rintro _ ⟨pq,rfl⟩
     have hb9:=HBW.out.trans ((below_regrown w4 pq.d pq.os).mono HBW.out.size)
     have x0:=cell_regrown (w:=w4) HXX.out.1 pq.d pq.os
     have x1:=cell_regrown (w:=w4) HXX.out.2.1 pq.d pq.os
     have x2:=cell_regrown (w:=w4) HXX.out.2.2 pq.d pq.os
     generalize grow (redrawn w4 pq.d) pq.os=w9 at hb9 x0 x1 x2 ⊢
     have HB9:=Lib.hid hb9
     clear hb9 q0 q1 q2 q3
     go_wp2_with fail
     go_ret
     exact ⟨HB9.out,1,rfl,fun h=>by omega,fun h=>absurd h HNO.out⟩
    subst hlb
    by_cases t1:ty=1
    ·subst t1
     by_cases v1:vl < -1099511627776
     ·have r1:decide (vl < -1099511627776)=true:=decide_eq_true v1
      have HNO:Hid (¬ BdOk bs):=Lib.hid (fun V=>by have:=HTY.out V; omega)
      clear HNM HINC HST HTY hO y0 y1 y2 x0 x1 x2 HIN2
      refine wp_region_quiet_below (by kernel_rfl) (by kernel_rfl) ?_
      repeat (go_big_quiet_step (first | exact Calls.regrown_of (HIN.out _ _)))
      refine wpQuiet_nil ?_
      rintro _ ⟨pq,rfl⟩
      have hb9:=HBW.out.trans ((below_regrown w4 pq.d pq.os).mono HBW.out.size)
      have x0:=cell_regrown (w:=w4) HXX.out.1 pq.d pq.os
      have x1:=cell_regrown (w:=w4) HXX.out.2.1 pq.d pq.os
      have x2:=cell_regrown (w:=w4) HXX.out.2.2 pq.d pq.os
      generalize grow (redrawn w4 pq.d) pq.os=w9 at hb9 x0 x1 x2 ⊢
      have HB9:=Lib.hid hb9
      clear hb9 q0 q1 q2 q3
      go_wp2_with fail
      go_ret
      exact ⟨HB9.out,1,rfl,fun h=>by omega,fun h=>absurd h HNO.out⟩
     by_cases v2:1099511627776<vl
     ·have r1:decide (vl < -1099511627776)=false:=decide_eq_false v1
      have r2:decide (1099511627776<vl)=true:=decide_eq_true v2
      have r3:decide (vl > 1099511627776)=true:=decide_eq_true v2
      have HNO:Hid (¬ BdOk bs):=Lib.hid (fun V=>by have:=HTY.out V; omega)
      clear HNM HINC HST HTY hO y0 y1 y2 x0 x1 x2 HIN2
      refine wp_region_quiet_below (by kernel_rfl) (by kernel_rfl) ?_
      repeat (go_big_quiet_step (first | exact Calls.regrown_of (HIN.out _ _)))
      refine wpQuiet_nil ?_
      rintro _ ⟨pq,rfl⟩
      have hb9:=HBW.out.trans ((below_regrown w4 pq.d pq.os).mono HBW.out.size)
      have x0:=cell_regrown (w:=w4) HXX.out.1 pq.d pq.os
      have x1:=cell_regrown (w:=w4) HXX.out.2.1 pq.d pq.os
      have x2:=cell_regrown (w:=w4) HXX.out.2.2 pq.d pq.os
      generalize grow (redrawn w4 pq.d) pq.os=w9 at hb9 x0 x1 x2 ⊢
      have HB9:=Lib.hid hb9
      clear hb9 q0 q1 q2 q3
      go_wp2_with fail
      go_ret
      exact ⟨HB9.out,1,rfl,fun h=>by omega,fun h=>absurd h HNO.out⟩
     have r1:decide (vl < -1099511627776)=false:=decide_eq_false v1
     have r2:decide (1099511627776<vl)=false:=decide_eq_false v2
     have r3:decide (vl > 1099511627776)=false:=decide_eq_false v2
     have HOK2:=Lib.hid (HST.out (by first | rfl | exact True.intro) (fun _=>by rw [HNP.out]; exact HLS.out) (.inl ⟨rfl,by omega,by omega⟩))
     clear HNM HINC HST HTY hO y0 y1 y2 x0 x1 x2 HIN2
     refine wp_region_quiet_below (by kernel_rfl) (by kernel_rfl) ?_
     repeat (go_big_quiet_step (first | exact Calls.regrown_of (HIN.out _ _)))
     refine wpQuiet_nil ?_
     rintro _ ⟨pq,rfl⟩
     have hb9:=HBW.out.trans ((below_regrown w4 pq.d pq.os).mono HBW.out.size)
     have x0:=cell_regrown (w:=w4) HXX.out.1 pq.d pq.os
     have x1:=cell_regrown (w:=w4) HXX.out.2.1 pq.d pq.os
     have x2:=cell_regrown (w:=w4) HXX.out.2.2 pq.d pq.os
     generalize grow (redrawn w4 pq.d) pq.os=w9 at hb9 x0 x1 x2 ⊢
     have HB9:=Lib.hid hb9
     clear hb9 q0 q1 q2 q3
     go_wp2_with fail
     exact ⟨⟨rfl,j+1,by go_num,by omega,HOK2,HB9⟩,by simp [intOf]; omega⟩
    by_cases t2:ty=2
    ·subst t2
     by_cases v1:vl < -1099511627776
     ·have r1:decide (vl < -1099511627776)=true:=decide_eq_true v1
      have HNO:Hid (¬ BdOk bs):=Lib.hid (fun V=>by have:=HTY.out V; omega)
      clear HNM HINC HST HTY hO y0 y1 y2 x0 x1 x2 HIN2
      refine wp_region_quiet_below (by kernel_rfl) (by kernel_rfl) ?_
      repeat (go_big_quiet_step (first | exact Calls.regrown_of (HIN.out _ _)))
      refine wpQuiet_nil ?_
      rintro _ ⟨pq,rfl⟩
      have hb9:=HBW.out.trans ((below_regrown w4 pq.d pq.os).mono HBW.out.size)
      have x0:=cell_regrown (w:=w4) HXX.out.1 pq.d pq.os
      have x1:=cell_regrown (w:=w4) HXX.out.2.1 pq.d pq.os
      have x2:=cell_regrown (w:=w4) HXX.out.2.2 pq.d pq.os
      generalize grow (redrawn w4 pq.d) pq.os=w9 at hb9 x0 x1 x2 ⊢
      have HB9:=Lib.hid hb9
      clear hb9 q0 q1 q2 q3
      go_wp2_with fail
      go_ret
      exact ⟨HB9.out,1,rfl,fun h=>by omega,fun h=>absurd h HNO.out⟩
     by_cases v2:1099511627776<vl
     ·have r1:decide (vl < -1099511627776)=false:=decide_eq_false v1
      have r2:decide (1099511627776<vl)=true:=decide_eq_true v2
      have r3:decide (vl > 1099511627776)=true:=decide_eq_true v2
      have HNO:Hid (¬ BdOk bs):=Lib.hid (fun V=>by have:=HTY.out V; omega)
      clear HNM HINC HST HTY hO y0 y1 y2 x0 x1 x2 HIN2
      refine wp_region_quiet_below (by kernel_rfl) (by kernel_rfl) ?_
      repeat (go_big_quiet_step (first | exact Calls.regrown_of (HIN.out _ _)))
      refine wpQuiet_nil ?_
      rintro _ ⟨pq,rfl⟩
      have hb9:=HBW.out.trans ((below_regrown w4 pq.d pq.os).mono HBW.out.size)
      have x0:=cell_regrown (w:=w4) HXX.out.1 pq.d pq.os
      have x1:=cell_regrown (w:=w4) HXX.out.2.1 pq.d pq.os
      have x2:=cell_regrown (w:=w4) HXX.out.2.2 pq.d pq.os
      generalize grow (redrawn w4 pq.d) pq.os=w9 at hb9 x0 x1 x2 ⊢
      have HB9:=Lib.hid hb9
      clear hb9 q0 q1 q2 q3
      go_wp2_with fail
      go_ret
      exact ⟨HB9.out,1,rfl,fun h=>by omega,fun h=>absurd h HNO.out⟩
     by_cases v3:vl=0
     ·subst v3
      have HOK2:=Lib.hid (HST.out (by first | rfl | exact True.intro) (fun _=>by rw [HNP.out]; exact HLS.out) (.inr ⟨rfl,by omega,by omega⟩))
      clear HNM HINC HST HTY hO y0 y1 y2 x0 x1 x2 HIN2
      refine wp_region_quiet_below (by kernel_rfl) (by kernel_rfl) ?_
      repeat (go_big_quiet_step (first | exact Calls.regrown_of (HIN.out _ _)))
      refine wpQuiet_nil ?_
      rintro _ ⟨pq,rfl⟩
      have hb9:=HBW.out.trans ((below_regrown w4 pq.d pq.os).mono HBW.out.size)
      have x0:=cell_regrown (w:=w4) HXX.out.1 pq.d pq.os
      have x1:=cell_regrown (w:=w4) HXX.out.2.1 pq.d pq.os
      have x2:=cell_regrown (w:=w4) HXX.out.2.2 pq.d pq.os
      generalize grow (redrawn w4 pq.d) pq.os=w9 at hb9 x0 x1 x2 ⊢
      have HB9:=Lib.hid hb9
      clear hb9 q0 q1 q2 q3
      go_wp2_with fail
      exact ⟨⟨rfl,j+1,by go_num,by omega,HOK2,HB9⟩,by simp [intOf]; omega⟩
     by_cases v4:vl=1
     ·subst v4
      have HOK2:=Lib.hid (HST.out (by first | rfl | exact True.intro) (fun _=>by rw [HNP.out]; exact HLS.out) (.inr ⟨rfl,by omega,by omega⟩))
      clear HNM HINC HST HTY hO y0 y1 y2 x0 x1 x2 HIN2
      refine wp_region_quiet_below (by kernel_rfl) (by kernel_rfl) ?_
      repeat (go_big_quiet_step (first | exact Calls.regrown_of (HIN.out _ _)))
      refine wpQuiet_nil ?_
      rintro _ ⟨pq,rfl⟩
      have hb9:=HBW.out.trans ((below_regrown w4 pq.d pq.os).mono HBW.out.size)
      have x0:=cell_regrown (w:=w4) HXX.out.1 pq.d pq.os
      have x1:=cell_regrown (w:=w4) HXX.out.2.1 pq.d pq.os
      have x2:=cell_regrown (w:=w4) HXX.out.2.2 pq.d pq.os
      generalize grow (redrawn w4 pq.d) pq.os=w9 at hb9 x0 x1 x2 ⊢
      have HB9:=Lib.hid hb9
      clear hb9 q0 q1 q2 q3
      go_wp2_with fail
      exact ⟨⟨rfl,j+1,by go_num,by omega,HOK2,HB9⟩,by simp [intOf]; omega⟩
     have r1:decide (vl < -1099511627776)=false:=decide_eq_false v1
     have r2:decide (1099511627776<vl)=false:=decide_eq_false v2
     have r3:decide (vl > 1099511627776)=false:=decide_eq_false v2
     have r4:(vl != 0)=true:=by simpa using v3
     have r5:(vl != 1)=true:=by simpa using v4
     have r6:(vl == 0)=false:=by simpa using v3
     have r7:(vl == 1)=false:=by simpa using v4
     have HNO:Hid (¬ BdOk bs):=Lib.hid (fun V=>by have:=HTY.out V; omega)
     clear HNM HINC HST HTY hO y0 y1 y2 x0 x1 x2 HIN2
     refine wp_region_quiet_below (by kernel_rfl) (by kernel_rfl) ?_
     repeat (go_big_quiet_step (first | exact Calls.regrown_of (HIN.out _ _)))
     refine wpQuiet_nil ?_
     rintro _ ⟨pq,rfl⟩
     have hb9:=HBW.out.trans ((below_regrown w4 pq.d pq.os).mono HBW.out.size)
     have x0:=cell_regrown (w:=w4) HXX.out.1 pq.d pq.os
     have x1:=cell_regrown (w:=w4) HXX.out.2.1 pq.d pq.os
     have x2:=cell_regrown (w:=w4) HXX.out.2.2 pq.d pq.os
     generalize grow (redrawn w4 pq.d) pq.os=w9 at hb9 x0 x1 x2 ⊢
     have HB9:=Lib.hid hb9
     clear hb9 q0 q1 q2 q3
     go_wp2_with fail
     go_ret
     exact ⟨HB9.out,1,rfl,fun h=>by omega,fun h=>absurd h HNO.out⟩
    have r1:(ty != 1)=true:=by simpa using t1
    have r2:(ty != 2)=true:=by simpa using t2
    have r3:(ty == 1)=false:=by simpa using t1
    have r4:(ty == 2)=false:=by simpa using t2
    have HNO:Hid (¬ BdOk bs):=Lib.hid (fun V=>by have:=HTY.out V; omega)
    clear HNM HINC HST HTY hO y0 y1 y2 x0 x1 x2 HIN2
    refine wp_region_quiet_below (by kernel_rfl) (by kernel_rfl) ?_
    repeat (go_big_quiet_step (first | exact Calls.regrown_of (HIN.out _ _)))
    refine wpQuiet_nil ?_
    rintro _ ⟨pq,rfl⟩
    have hb9:=HBW.out.trans ((below_regrown w4 pq.d pq.os).mono HBW.out.size)
    have x0:=cell_regrown (w:=w4) HXX.out.1 pq.d pq.os
    have x1:=cell_regrown (w:=w4) HXX.out.2.1 pq.d pq.os
    have x2:=cell_regrown (w:=w4) HXX.out.2.2 pq.d pq.os
    generalize grow (redrawn w4 pq.d) pq.os=w9 at hb9 x0 x1 x2 ⊢
    have HB9:=Lib.hid hb9
    clear hb9 q0 q1 q2 q3
    go_wp2_with fail
    go_ret
    exact ⟨HB9.out,1,rfl,fun h=>by omega,fun h=>absurd h HNO.out⟩
   ·obtain rfl:j=0:=by omega
    clear HPREV
    by_cases t1:ty=1
    ·subst t1
     by_cases v1:vl < -1099511627776
     ·have r1:decide (vl < -1099511627776)=true:=decide_eq_true v1
      have HNO:Hid (¬ BdOk bs):=Lib.hid (fun V=>by have:=HTY.out V; omega)
      clear HNM HINC HST HTY hO y0 y1 y2 x0 x1 x2
      refine wp_region_quiet_below (by kernel_rfl) (by kernel_rfl) ?_
      repeat (go_big_quiet_step (first | exact Calls.regrown_of (HIN.out _ _)))
      refine wpQuiet_nil ?_
      rintro _ ⟨pq,rfl⟩
      have hb9:=HBW.out.trans ((below_regrown w4 pq.d pq.os).mono HBW.out.size)
      have x0:=cell_regrown (w:=w4) HXX.out.1 pq.d pq.os
      have x1:=cell_regrown (w:=w4) HXX.out.2.1 pq.d pq.os
      have x2:=cell_regrown (w:=w4) HXX.out.2.2 pq.d pq.os
      generalize grow (redrawn w4 pq.d) pq.os=w9 at hb9 x0 x1 x2 ⊢
      have HB9:=Lib.hid hb9
      clear hb9 q0 q1 q2
      go_wp2_with fail
      go_ret
      exact ⟨HB9.out,1,rfl,fun h=>by omega,fun h=>absurd h HNO.out⟩
     by_cases v2:1099511627776<vl
     ·have r1:decide (vl < -1099511627776)=false:=decide_eq_false v1
      have r2:decide (1099511627776<vl)=true:=decide_eq_true v2
      have r3:decide (vl > 1099511627776)=true:=decide_eq_true v2
      have HNO:Hid (¬ BdOk bs):=Lib.hid (fun V=>by have:=HTY.out V; omega)
      clear HNM HINC HST HTY hO y0 y1 y2 x0 x1 x2
      refine wp_region_quiet_below (by kernel_rfl) (by kernel_rfl) ?_
      repeat (go_big_quiet_step (first | exact Calls.regrown_of (HIN.out _ _)))
      refine wpQuiet_nil ?_
      rintro _ ⟨pq,rfl⟩
      have hb9:=HBW.out.trans ((below_regrown w4 pq.d pq.os).mono HBW.out.size)
      have x0:=cell_regrown (w:=w4) HXX.out.1 pq.d pq.os
      have x1:=cell_regrown (w:=w4) HXX.out.2.1 pq.d pq.os
      have x2:=cell_regrown (w:=w4) HXX.out.2.2 pq.d pq.os
      generalize grow (redrawn w4 pq.d) pq.os=w9 at hb9 x0 x1 x2 ⊢
      have HB9:=Lib.hid hb9
      clear hb9 q0 q1 q2
      go_wp2_with fail
      go_ret
      exact ⟨HB9.out,1,rfl,fun h=>by omega,fun h=>absurd h HNO.out⟩
     have r1:decide (vl < -1099511627776)=false:=decide_eq_false v1
     have r2:decide (1099511627776<vl)=false:=decide_eq_false v2
     have r3:decide (vl > 1099511627776)=false:=decide_eq_false v2
     have HOK2:=Lib.hid (HST.out (by first | rfl | exact True.intro) (fun h0=>by omega) (.inl ⟨rfl,by omega,by omega⟩))
     clear HNM HINC HST HTY hO y0 y1 y2 x0 x1 x2
     refine wp_region_quiet_below (by kernel_rfl) (by kernel_rfl) ?_
     repeat (go_big_quiet_step (first | exact Calls.regrown_of (HIN.out _ _)))
     refine wpQuiet_nil ?_
     rintro _ ⟨pq,rfl⟩
     have hb9:=HBW.out.trans ((below_regrown w4 pq.d pq.os).mono HBW.out.size)
     have x0:=cell_regrown (w:=w4) HXX.out.1 pq.d pq.os
     have x1:=cell_regrown (w:=w4) HXX.out.2.1 pq.d pq.os
     have x2:=cell_regrown (w:=w4) HXX.out.2.2 pq.d pq.os
     generalize grow (redrawn w4 pq.d) pq.os=w9 at hb9 x0 x1 x2 ⊢
     have HB9:=Lib.hid hb9
     clear hb9 q0 q1 q2
     go_wp2_with fail
     exact ⟨⟨rfl,0+1,by first | rfl | go_num,by omega,HOK2,HB9⟩,by simp [intOf]; omega⟩
    by_cases t2:ty=2
    ·subst t2
     by_cases v1:vl < -1099511627776
     ·have r1:decide (vl < -1099511627776)=true:=decide_eq_true v1
      have HNO:Hid (¬ BdOk bs):=Lib.hid (fun V=>by have:=HTY.out V; omega)
      clear HNM HINC HST HTY hO y0 y1 y2 x0 x1 x2
      refine wp_region_quiet_below (by kernel_rfl) (by kernel_rfl) ?_
      repeat (go_big_quiet_step (first | exact Calls.regrown_of (HIN.out _ _)))
      refine wpQuiet_nil ?_
      rintro _ ⟨pq,rfl⟩
      have hb9:=HBW.out.trans ((below_regrown w4 pq.d pq.os).mono HBW.out.size)
      have x0:=cell_regrown (w:=w4) HXX.out.1 pq.d pq.os
      have x1:=cell_regrown (w:=w4) HXX.out.2.1 pq.d pq.os
      have x2:=cell_regrown (w:=w4) HXX.out.2.2 pq.d pq.os
      generalize grow (redrawn w4 pq.d) pq.os=w9 at hb9 x0 x1 x2 ⊢
      have HB9:=Lib.hid hb9
      clear hb9 q0 q1 q2
      go_wp2_with fail
      go_ret
      exact ⟨HB9.out,1,rfl,fun h=>by omega,fun h=>absurd h HNO.out⟩
     by_cases v2:1099511627776<vl
     ·have r1:decide (vl < -1099511627776)=false:=decide_eq_false v1
      have r2:decide (1099511627776<vl)=true:=decide_eq_true v2
      have r3:decide (vl > 1099511627776)=true:=decide_eq_true v2
      have HNO:Hid (¬ BdOk bs):=Lib.hid (fun V=>by have:=HTY.out V; omega)
      clear HNM HINC HST HTY hO y0 y1 y2 x0 x1 x2
      refine wp_region_quiet_below (by kernel_rfl) (by kernel_rfl) ?_
      repeat (go_big_quiet_step (first | exact Calls.regrown_of (HIN.out _ _)))
      refine wpQuiet_nil ?_
      rintro _ ⟨pq,rfl⟩
      have hb9:=HBW.out.trans ((below_regrown w4 pq.d pq.os).mono HBW.out.size)
      have x0:=cell_regrown (w:=w4) HXX.out.1 pq.d pq.os
      have x1:=cell_regrown (w:=w4) HXX.out.2.1 pq.d pq.os
      have x2:=cell_regrown (w:=w4) HXX.out.2.2 pq.d pq.os
      generalize grow (redrawn w4 pq.d) pq.os=w9 at hb9 x0 x1 x2 ⊢
      have HB9:=Lib.hid hb9
      clear hb9 q0 q1 q2
      go_wp2_with fail
      go_ret
      exact ⟨HB9.out,1,rfl,fun h=>by omega,fun h=>absurd h HNO.out⟩
     by_cases v3:vl=0
     ·subst v3
      have HOK2:=Lib.hid (HST.out (by first | rfl | exact True.intro) (fun h0=>by omega) (.inr ⟨rfl,by omega,by omega⟩))
      clear HNM HINC HST HTY hO y0 y1 y2 x0 x1 x2
      refine wp_region_quiet_below (by kernel_rfl) (by kernel_rfl) ?_
      repeat (go_big_quiet_step (first | exact Calls.regrown_of (HIN.out _ _)))
      refine wpQuiet_nil ?_
      rintro _ ⟨pq,rfl⟩
      have hb9:=HBW.out.trans ((below_regrown w4 pq.d pq.os).mono HBW.out.size)
      have x0:=cell_regrown (w:=w4) HXX.out.1 pq.d pq.os
      have x1:=cell_regrown (w:=w4) HXX.out.2.1 pq.d pq.os
      have x2:=cell_regrown (w:=w4) HXX.out.2.2 pq.d pq.os
      generalize grow (redrawn w4 pq.d) pq.os=w9 at hb9 x0 x1 x2 ⊢
      have HB9:=Lib.hid hb9
      clear hb9 q0 q1 q2
      go_wp2_with fail
      exact ⟨⟨rfl,0+1,by first | rfl | go_num,by omega,HOK2,HB9⟩,by simp [intOf]; omega⟩
     by_cases v4:vl=1
     ·subst v4
      have HOK2:=Lib.hid (HST.out (by first | rfl | exact True.intro) (fun h0=>by omega) (.inr ⟨rfl,by omega,by omega⟩))
      clear HNM HINC HST HTY hO y0 y1 y2 x0 x1 x2
      refine wp_region_quiet_below (by kernel_rfl) (by kernel_rfl) ?_
      repeat (go_big_quiet_step (first | exact Calls.regrown_of (HIN.out _ _)))
      refine wpQuiet_nil ?_
      rintro _ ⟨pq,rfl⟩
      have hb9:=HBW.out.trans ((below_regrown w4 pq.d pq.os).mono HBW.out.size)
      have x0:=cell_regrown (w:=w4) HXX.out.1 pq.d pq.os
      have x1:=cell_regrown (w:=w4) HXX.out.2.1 pq.d pq.os
      have x2:=cell_regrown (w:=w4) HXX.out.2.2 pq.d pq.os
      generalize grow (redrawn w4 pq.d) pq.os=w9 at hb9 x0 x1 x2 ⊢
      have HB9:=Lib.hid hb9
      clear hb9 q0 q1 q2
      go_wp2_with fail
      exact ⟨⟨rfl,0+1,by first | rfl | go_num,by omega,HOK2,HB9⟩,by simp [intOf]; omega⟩
     have r1:decide (vl < -1099511627776)=false:=decide_eq_false v1
     have r2:decide (1099511627776<vl)=false:=decide_eq_false v2
     have r3:decide (vl > 1099511627776)=false:=decide_eq_false v2
     have r4:(vl != 0)=true:=by simpa using v3
     have r5:(vl != 1)=true:=by simpa using v4
     have r6:(vl == 0)=false:=by simpa using v3
     have r7:(vl == 1)=false:=by simpa using v4
     have HNO:Hid (¬ BdOk bs):=Lib.hid (fun V=>by have:=HTY.out V; omega)
     clear HNM HINC HST HTY hO y0 y1 y2 x0 x1 x2
     refine wp_region_quiet_below (by kernel_rfl) (by kernel_rfl) ?_
     repeat (go_big_quiet_step (first | exact Calls.regrown_of (HIN.out _ _)))
     refine wpQuiet_nil ?_
     rintro _ ⟨pq,rfl⟩
     have hb9:=HBW.out.trans ((below_regrown w4 pq.d pq.os).mono HBW.out.size)
     have x0:=cell_regrown (w:=w4) HXX.out.1 pq.d pq.os
     have x1:=cell_regrown (w:=w4) HXX.out.2.1 pq.d pq.os
     have x2:=cell_regrown (w:=w4) HXX.out.2.2 pq.d pq.os
     generalize grow (redrawn w4 pq.d) pq.os=w9 at hb9 x0 x1 x2 ⊢
     have HB9:=Lib.hid hb9
     clear hb9 q0 q1 q2
     go_wp2_with fail
     go_ret
     exact ⟨HB9.out,1,rfl,fun h=>by omega,fun h=>absurd h HNO.out⟩
    have r1:(ty != 1)=true:=by simpa using t1
    have r2:(ty != 2)=true:=by simpa using t2
    have r3:(ty == 1)=false:=by simpa using t1
    have r4:(ty == 2)=false:=by simpa using t2
    have HNO:Hid (¬ BdOk bs):=Lib.hid (fun V=>by have:=HTY.out V; omega)
    clear HNM HINC HST HTY hO y0 y1 y2 x0 x1 x2
    refine wp_region_quiet_below (by kernel_rfl) (by kernel_rfl) ?_
    repeat (go_big_quiet_step (first | exact Calls.regrown_of (HIN.out _ _)))
    refine wpQuiet_nil ?_
    rintro _ ⟨pq,rfl⟩
    have hb9:=HBW.out.trans ((below_regrown w4 pq.d pq.os).mono HBW.out.size)
    have x0:=cell_regrown (w:=w4) HXX.out.1 pq.d pq.os
    have x1:=cell_regrown (w:=w4) HXX.out.2.1 pq.d pq.os
    have x2:=cell_regrown (w:=w4) HXX.out.2.2 pq.d pq.os
    generalize grow (redrawn w4 pq.d) pq.os=w9 at hb9 x0 x1 x2 ⊢
    have HB9:=Lib.hid hb9
    clear hb9 q0 q1 q2
    go_wp2_with fail
    go_ret
    exact ⟨HB9.out,1,rfl,fun h=>by omega,fun h=>absurd h HNO.out⟩
  ·have hd1:decide ((j:Int)<(bs.length:Int))=false:=decide_eq_false (by omega)
   have hd2:decide (j<bs.length)=false:=decide_eq_false hlt
   have HV:Hid (BdOk bs):=Lib.hid (by
    have h:=HOK.out
    rw [show j=bs.length from by omega] at h
    exact h.ok (by have:=HL.out; omega))
   clear HOK
   go_wp2_with fail
   go_ret
   exact ⟨HB.out,0,rfl,fun _=>HV.out,fun _=>rfl⟩
end Go.Proofs.YtmbffkemfepekaaGreatDoor

namespace Go.Proofs.YtmbffkemfepekaaGreatDoor
open Go.RowKit
set_option maxRecDepth 100000 in
set_option maxHeartbeats 3200000 in
theorem rfind_any (A:Option Addr) (c B:Nat) (l:List Bd) (n:ByteArray) (w:World) (h:RdB w B A l) (hB:B≤w.heap.size) (hl:l.length≤140737488355328) :
  Calls Tryz.prog 150 #[.slice A l.length c,.string n] w (Ret (fndV (findB l n)) w):=by
 have hO:=one_new w #[.string ⟨#[]⟩,.int .i64 0,.int .i64 0] 89
 have hF:∀ j,(w.alloc (.cells #[.string ⟨#[]⟩,.int .i64 0,.int .i64 0] 89)).frozen? ⟨w.heap.size,j,none⟩=false:=fun j=>by simp
 have H:=Lib.hid h
 unfold Ret
 clear h
 go_enter Tryz.func150,Tryz.ntmps150
 go_upto_region 1 with fail
 generalize w.alloc _=w1 at hO hF ⊢
 have HF:=Lib.hid hF
 have HO:=Lib.hid hO
 clear hF hO
 go_wp2_with fail
 go_loopw [5,6] (fun r i wr=>r=.bool false∧∃ k:Nat,i=.int .i64 (k:Nat)∧k≤l.length∧Hid (∀ (j:Nat) (hj:j<l.length),j<k→(l[j].name == n)=false)∧Hid (Below w1.heap.size w1 wr)) (fun _ i _=>l.length - (intOf i).toNat)
 case atStart=>exact ⟨rfl,0,rfl,by omega,Lib.hid (fun j hj h=>by omega),Lib.hid (Below.refl _ _)⟩
 case round=>
  obtain ⟨rfl,k,rfl,hk,hall,HB⟩:=hrel
  have hk0:(0:Int)≤(k:Int):=by omega
  have hwr1:IntKind.i64.wrap ((k:Int)+1)=(k:Int)+1:=by rw [IntKind.wrap_i64]; omega
  have hOr:=HO.out.next HB.out
  have HBW:=Lib.hid hOr.below
  have HS:=Lib.hid hOr.size
  obtain ⟨d0,d1,d2⟩:=bx3 hOr.fst
  have g0:=(HB.out.frozen (p:=⟨w.heap.size,0,none⟩) (by have:=HO.out.size; show w.heap.size<w1.heap.size; omega)).trans (HF.out 0)
  have g1:=(HB.out.frozen (p:=⟨w.heap.size,1,none⟩) (by have:=HO.out.size; show w.heap.size<w1.heap.size; omega)).trans (HF.out 1)
  have g2:=(HB.out.frozen (p:=⟨w.heap.size,2,none⟩) (by have:=HO.out.size; show w.heap.size<w1.heap.size; omega)).trans (HF.out 2)
  clear hOr
  by_cases hlk:k<l.length
  ·have hd1:decide ((k:Int)<(l.length:Int))=true:=decide_eq_true (by omega)
   have hd2:decide (k<l.length)=true:=decide_eq_true hlk
   have hkl:(k:Int)<(l.length:Int):=by omega
   have hR:RdB wr B A l:=Rd.below' H.out HBW.out hB
   obtain ⟨b,off,rfl,hbB,y0,y1,y2⟩:=hR.at_ hlk
   clear hR
   have HYES:Hid ((l[k].name == n)=true→fndV (findB l n)=.tuple #[.agg #[.string l[k].name,.int .i64 l[k].ty,.int .i64 l[k].val],.bool true]):=Lib.hid (fun e=>by
    rw [find_skip hall.out,List.drop_eq_getElem_cons hlk]
    unfold findB
    rw [List.find?_cons,e]
    rfl)
   have HNO:Hid ((l[k].name == n)=false→∀ (j:Nat) (hj:j<l.length),j<k+1→(l[j].name == n)=false):=Lib.hid (fun e j hj hjk=>by
    by_cases e2:j=k
    ·subst e2; exact e
    ·exact hall.out j hj (by omega))
   generalize hq:(l[k].name == n)=q at HYES HNO
   have hq2:(l[k].name.toList == n.toList)=q:=by rw [← beq_toListBytes]; exact hq
   generalize l[k].name=nmk at y0 HYES hq hq2
   generalize l[k].ty=tyk at y1 HYES
   generalize l[k].val=vk at y2 HYES
   clear hall
   cases q with
   | true=>
    have HV:=Lib.hid (HYES.out (by first | rfl | exact True.intro))
    clear HYES HNO
    go_wp2_with fail
    obtain ⟨q0,q1,q2⟩:=set3 d0 d1 d2 (.string nmk) (.int .i64 tyk) (.int .i64 vk)
    have hby:=((HBW.out.setCell (p:=⟨w.heap.size,0,none⟩) (Nat.le_refl _) (.string nmk)).setCell (p:=⟨w.heap.size,1,none⟩) (Nat.le_refl _) (.int .i64 tyk)).setCell (p:=⟨w.heap.size,2,none⟩) (Nat.le_refl _) (.int .i64 vk)
    clear d0 d1 d2 g0 g1 g2 y0 y1 y2
    generalize World.setCell _ _ _=w6 at q0 q1 q2 hby ⊢
    refine bodyPost_ret (v:=.tuple #[.agg #[.string nmk,.int .i64 tyk,.int .i64 vk],.bool true]) (by rw [results_cell_tmp rfl]; go_simp) rfl ⟨by rw [HV.out],hby⟩
   | false=>
    have HN2:=Lib.hid (HNO.out (by first | rfl | exact True.intro))
    clear HYES HNO
    go_wp2_with fail
    exact ⟨⟨rfl,k+1,by go_num,by omega,HN2,HB⟩,by simp [intOf]; omega⟩
  ·have hd1:decide ((k:Int)<(l.length:Int))=false:=decide_eq_false (by omega)
   have hd2:decide (k<l.length)=false:=decide_eq_false hlk
   have HN:Hid (findB l n=none):=Lib.hid (by rw [find_skip hall.out,List.drop_of_length_le (by omega)]; rfl)
   clear hall
   go_wp2_with fail
   obtain ⟨q0,q1,q2⟩:=set3 d0 d1 d2 (.string ⟨#[]⟩) (.int .i64 0) (.int .i64 0)
   have hby:=((HBW.out.setCell (p:=⟨w.heap.size,0,none⟩) (Nat.le_refl _) (.string ⟨#[]⟩)).setCell (p:=⟨w.heap.size,1,none⟩) (Nat.le_refl _) (.int .i64 0)).setCell (p:=⟨w.heap.size,2,none⟩) (Nat.le_refl _) (.int .i64 0)
   clear d0 d1 d2 g0 g1 g2
   generalize World.setCell _ _ _=w6 at q0 q1 q2 hby ⊢
   refine bodyPost_ret (v:=.tuple #[.agg #[.string ⟨#[]⟩,.int .i64 0,.int .i64 0],.bool false]) (by rw [results_cell_tmp rfl]; go_simp) rfl ⟨by rw [HN.out]; rfl,hby⟩
end Go.Proofs.YtmbffkemfepekaaGreatDoor
