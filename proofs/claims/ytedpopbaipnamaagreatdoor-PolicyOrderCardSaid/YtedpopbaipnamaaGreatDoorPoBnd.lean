/- expr.bound, walked, of valid bindings. Conditions: the bindings lie in memory and are valid. -/
import Derived.Test.YtedpopbaipnamaaGreatDoorPoPolL
import Derived.Test.YtedpopbaipnamaaGreatDoorPoNam
import Derived.Test.YtedpopbaipnamaaGreatDoorPoPolM
import Derived.WalkLawsBesides
import Derived.Lib.QuietBelow
import Derived.Test.YtedpopbaipnamaaGreatDoorPoTyE
import Derived.Test.YtedpopbaipnamaaGreatDoorPoVal
import Derived.Laws.OwnMore
import Derived.Laws.EntriesVeiled
namespace Go.Proofs.YtedpopbaipnamaaGreatDoor
open Go.RowKit Go.Sort
/-- Valid bindings. -/
structure BdOk (l:List Bd):Prop where
 len:l.length≤64
 nm:∀ (i:Nat) (h:i<l.length),nmB l[i].name=true
 inc:∀ (i:Nat) (h:i+1<l.length),Op.bytesLess l[i].name.toList l[i+1].name.toList=true
 ty:∀ (i:Nat) (h:i<l.length),(l[i].ty=1∧-1099511627776≤l[i].val∧l[i].val≤1099511627776)∨(l[i].ty=2∧0≤l[i].val∧l[i].val≤1)
theorem nm_size {n:ByteArray} (h:nmB n=true):n.size≤9223372036854775807:=by
 unfold nmB nmL at h
 simp only [Bool.and_eq_true,decide_eq_true_eq] at h
 have:n.size=n.data.toList.length:=by rw [Array.length_toList]; rfl
 omega
set_option maxRecDepth 100000 in
set_option maxHeartbeats 3200000 in
theorem bound_any (bs:List Bd) (V:BdOk bs) (A:Option Addr) (c B:Nat) (w:World) (h:RdB w B A bs) (hB:B≤w.heap.size) :
  Calls Tryz.prog 59 #[.slice A bs.length c] w (Ret (.bool true) w):=by
 have hl64:=V.len
 have H:=Lib.hid h
 have HV:=Lib.hid V
 have hl64i:(bs.length:Int)≤64:=by omega
 unfold Ret
 clear h V
 go_enter Tryz.func59,Tryz.ntmps59
 go_wp2_with fail
 go_loopw [2,9] (fun r i wr=>r=.bool false∧∃ j:Nat,i=.int .i64 (j:Nat)∧j≤bs.length∧Below w.heap.size w wr) (fun _ i _=>bs.length - (intOf i).toNat)
 case atStart=>exact ⟨rfl,0,rfl,Nat.zero_le _,Below.refl _ _⟩
 case round=>
  obtain ⟨rfl,j,rfl,hj,hb⟩:=hrel
  have hj0:(0:Int)≤(j:Int):=by omega
  have hwr1:IntKind.i64.wrap ((j:Int)+1)=(j:Int)+1:=by rw [IntKind.wrap_i64]; omega
  by_cases hlt:j<bs.length
  ·have hd1:decide ((j:Int)<(bs.length:Int))=true:=decide_eq_true (by omega)
   have hd2:decide (j<bs.length)=true:=decide_eq_true hlt
   have hjl:(j:Int)<(bs.length:Int):=by omega
   have hR:RdB wr B A bs:=Rd.below' H.out hb hB
   have HPREV:Hid (0<j→∃ b off:Nat,A=some ⟨b,off,none⟩∧wr.cell? ⟨b,off+(j - 1) * 3,none⟩=some (.string (bs[j - 1]'(by omega)).name)):=Lib.hid (fun h0=>by
    obtain ⟨b,off,e,_,y,-⟩:=hR.at_ (k:=j - 1) (by omega)
    exact ⟨b,off,e,y⟩)
   obtain ⟨b,off,rfl,hbB,y0,y1,y2⟩:=hR.at_ hlt
   have hO:=one_new wr #[.string bs[j].name,.int .i64 bs[j].ty,.int .i64 bs[j].val] 50
   have HNM:=Lib.hid (HV.out.nm j hlt)
   have HTY:=Lib.hid (HV.out.ty j hlt)
   have HINC:Hid (∀ (h0:0<j),Op.bytesLess (bs[j - 1]'(by omega)).name.toList bs[j].name.toList=true):=Lib.hid (fun h0=>by
    have:=HV.out.inc (j - 1) (by omega)
    simpa [show j - 1+1=j from by omega] using this)
   generalize bs[j].name=nm at y0 hO HNM HINC
   generalize bs[j].ty=ty at y1 hO HTY
   generalize bs[j].val=vl at y2 hO HTY
   have HPREV2:Hid (∀ p:ByteArray,p=p):=Lib.hid (fun _=>rfl)
   clear hR HPREV2
   have HB:=Lib.hid hb
   clear hb
   go_upto_region 4 with fail
   generalize wr.alloc _=w4 at hO ⊢
   obtain ⟨x0,x1,x2⟩:=bx3 hO.fst
   have HIN:Hid (∀ d os,Calls Tryz.prog 94 #[.string nm] (grow (redrawn w4 d) os) (Ret (.bool true) (grow (redrawn w4 d) os))):=Lib.hid (fun d os=>by
    have:=isName_any nm (nm_size HNM.out) (grow (redrawn w4 d) os)
    rwa [HNM.out] at this)
   unfold Ret at HIN
   have q0:=fun d os=>cell_regrown (w:=w4) x0 d os
   have q1:=fun d os=>cell_regrown (w:=w4) x1 d os
   have q2:=fun d os=>cell_regrown (w:=w4) x2 d os
   have HBW:Hid (Below w.heap.size w w4):=Lib.hid (HB.out.trans (hO.below.mono HB.out.size))
   by_cases hj1:0<j
   ·have hd3:decide ((j:Int) > 0)=true:=decide_eq_true (by omega)
    have hd4:decide (0<(j:Int))=true:=decide_eq_true (by omega)
    have hd5:decide (0<j)=true:=decide_eq_true hj1
    obtain ⟨b',off',e',yp⟩:=HPREV.out hj1
    injection e' with e'
    injection e' with e1 e2 _
    subst e1 e2
    have hless:=HINC.out hj1
    have ypw:=(hO.below.cell (p:=⟨b,off+(j - 1) * 3,none⟩) (World.block_lt_of_cell? _ _ yp)).trans yp
    generalize (bs[j - 1]'(by omega)).name=np at ypw hless
    have q3:=fun d os=>cell_regrown (w:=w4) ypw d os
    have hs1:IntKind.i64.wrap ((j:Int) - 1)=(j:Int) - 1:=by rw [IntKind.wrap_i64]; omega
    have hs2:(0:Int)≤(j:Int) - 1:=by omega
    have hs3:((j:Int) - 1).toNat=j - 1:=by omega
    have hs4:(j:Int) - 1<(bs.length:Int):=by omega
    clear yp ypw y0 y1 y2 hO HPREV HINC HNM
    rcases HTY.out with ⟨rfl,hv1,hv2⟩ | ⟨rfl,hv1,hv2⟩
    ·have t1:decide (vl < -1099511627776)=false:=decide_eq_false (by omega)
     have t2:decide (1099511627776<vl)=false:=decide_eq_false (by omega)
     have t3:decide (vl > 1099511627776)=false:=decide_eq_false (by omega)
     clear HTY
     go_upto_region 7 with fail
     refine wp_region_quiet_below (by kernel_rfl) (by kernel_rfl) ?_
     repeat (go_big_quiet_step (first | exact Calls.regrown_of (HIN.out _ _)))
     refine wpQuiet_nil ?_
     rintro _ ⟨pq,rfl⟩
     have hb9:=HBW.out.trans ((below_regrown w4 pq.d pq.os).mono HBW.out.size)
     generalize grow (redrawn w4 pq.d) pq.os=w9 at hb9 ⊢
     clear q0 q1 q2 q3
     go_wp2_with fail
     exact ⟨⟨rfl,j+1,by go_num,by omega,hb9⟩,by simp [intOf]; omega⟩
    ·have t1:decide (vl<0)=false:=decide_eq_false (by omega)
     have t2:decide (1<vl)=false:=decide_eq_false (by omega)
     have t3:decide (vl > 1)=false:=decide_eq_false (by omega)
     clear HTY
     go_upto_region 7 with fail
     refine wp_region_quiet_below (by kernel_rfl) (by kernel_rfl) ?_
     repeat (go_big_quiet_step (first | exact Calls.regrown_of (HIN.out _ _)))
     refine wpQuiet_nil ?_
     rintro _ ⟨pq,rfl⟩
     have hb9:=HBW.out.trans ((below_regrown w4 pq.d pq.os).mono HBW.out.size)
     generalize grow (redrawn w4 pq.d) pq.os=w9 at hb9 ⊢
     clear q0 q1 q2 q3
     go_wp2_with fail
     exact ⟨⟨rfl,j+1,by go_num,by omega,hb9⟩,by simp [intOf]; omega⟩
   ·obtain rfl:j=0:=by omega
    clear y0 y1 y2 hO HPREV HINC HNM hj1
    rcases HTY.out with ⟨rfl,hv1,hv2⟩ | ⟨rfl,hv1,hv2⟩
    ·have t1:decide (vl < -1099511627776)=false:=decide_eq_false (by omega)
     have t2:decide (1099511627776<vl)=false:=decide_eq_false (by omega)
     have t3:decide (vl > 1099511627776)=false:=decide_eq_false (by omega)
     clear HTY
     go_upto_region 7 with fail
     refine wp_region_quiet_below (by kernel_rfl) (by kernel_rfl) ?_
     repeat (go_big_quiet_step (first | exact Calls.regrown_of (HIN.out _ _)))
     refine wpQuiet_nil ?_
     rintro _ ⟨pq,rfl⟩
     have hb9:=HBW.out.trans ((below_regrown w4 pq.d pq.os).mono HBW.out.size)
     generalize grow (redrawn w4 pq.d) pq.os=w9 at hb9 ⊢
     clear q0 q1 q2
     go_wp2_with fail
     exact ⟨⟨rfl,0+1,by first | rfl | go_num,by omega,hb9⟩,by simp [intOf]; omega⟩
    ·have t1:decide (vl<0)=false:=decide_eq_false (by omega)
     have t2:decide (1<vl)=false:=decide_eq_false (by omega)
     have t3:decide (vl > 1)=false:=decide_eq_false (by omega)
     clear HTY
     go_upto_region 7 with fail
     refine wp_region_quiet_below (by kernel_rfl) (by kernel_rfl) ?_
     repeat (go_big_quiet_step (first | exact Calls.regrown_of (HIN.out _ _)))
     refine wpQuiet_nil ?_
     rintro _ ⟨pq,rfl⟩
     have hb9:=HBW.out.trans ((below_regrown w4 pq.d pq.os).mono HBW.out.size)
     generalize grow (redrawn w4 pq.d) pq.os=w9 at hb9 ⊢
     clear q0 q1 q2
     go_wp2_with fail
     exact ⟨⟨rfl,0+1,by first | rfl | go_num,by omega,hb9⟩,by simp [intOf]; omega⟩
  ·have hd1:decide ((j:Int)<(bs.length:Int))=false:=decide_eq_false (by omega)
   have hd2:decide (j<bs.length)=false:=decide_eq_false hlt
   go_wp2_with fail
   go_ret
   exact ⟨rfl,hb⟩
end Go.Proofs.YtedpopbaipnamaaGreatDoor

namespace Go.Proofs.YtedpopbaipnamaaGreatDoor
theorem kd_len:kdB.length=11:=rfl
theorem kd_nm:∀ i:Fin 11,nmB (kdB[i.val]'(by have:=kd_len; omega)).name=true:=by decide +kernel
theorem kd_inc:∀ i:Fin 10,Op.bytesLess (kdB[i.val]'(by have:=kd_len; omega)).name.data.toList (kdB[i.val+1]'(by have:=kd_len; omega)).name.data.toList=true:=by decide +kernel
theorem kd_ty:∀ i:Fin 11,(kdB[i.val]'(by have:=kd_len; omega)).ty=1∨(kdB[i.val]'(by have:=kd_len; omega)).ty=2:=by decide +kernel
theorem bdok_of {l:List Bd} (hm:l.map (fun b=>(b.name,b.ty))=kdB.map (fun b=>(b.name,b.ty)))
  (hv:∀ (i:Nat) (h:i<l.length),(l[i].ty=1→-1099511627776≤l[i].val∧l[i].val≤1099511627776)∧(l[i].ty=2→0≤l[i].val∧l[i].val≤1)):BdOk l:=by
 have hl:l.length=11:=by
  have:=congrArg List.length hm
  simp only [List.length_map] at this
  exact this
 have ha:∀ (i:Nat) (h:i<l.length),l[i].name=(kdB[i]'(by rw [kd_len]; omega)).name∧l[i].ty=(kdB[i]'(by rw [kd_len]; omega)).ty:=by
  intro i h
  have h1:=congrArg (fun q=>q[i]?) hm
  simp only [List.getElem?_map] at h1
  rw [List.getElem?_eq_getElem h,List.getElem?_eq_getElem (by rw [kd_len]; omega)] at h1
  simp only [Option.map_some,Option.some.injEq,Prod.mk.injEq] at h1
  exact h1
 refine ⟨by omega,fun i h=>?_,fun i h=>?_,fun i h=>?_⟩
 ·rw [(ha i h).1]; exact kd_nm ⟨i,by omega⟩
 ·rw [(ha i (by omega)).1,(ha (i+1) h).1,ByteArray.toList_eq,ByteArray.toList_eq]; exact kd_inc ⟨i,by omega⟩
 ·have h1:=kd_ty ⟨i,by omega⟩
  simp only at h1
  rw [← (ha i h).2] at h1
  rcases h1 with h1 | h1
  ·exact .inl ⟨h1,(hv i h).1 h1⟩
  ·exact .inr ⟨h1,(hv i h).2 h1⟩
theorem bdok_kd:BdOk kdB:=bdok_of rfl (fun i h=>by
 have hall:∀ b∈kdB,b.val=0:=by unfold kdB; intro b hb; obtain ⟨k,_,rfl⟩:=List.mem_map.1 hb; rfl
 rw [hall _ (List.getElem_mem h)]
 omega)
theorem bdok_fits {l:List Bd} (h:fits l=true):BdOk l:=by
 refine bdok_of (fits_map h) fun i hi=>?_
 unfold fits at h
 rw [Bool.and_eq_true] at h
 obtain ⟨h1,h2⟩:=h
 have hl:l.length=11:=by simpa using h1
 have hk:kds.length=11:=rfl
 have hz:(kds[i]'(by omega),l[i])∈kds.zip l:=by
  have h3:i<(kds.zip l).length:=by rw [List.length_zip]; omega
  have:=List.getElem_mem h3
  rwa [List.getElem_zip] at this
 have hf:=List.all_eq_true.1 h2 _ hz
 unfold fitB at hf
 simp only [Bool.and_eq_true,beq_iff_eq] at hf
 obtain ⟨⟨-,ht⟩,hv⟩:=hf
 constructor
 ·intro e
  rw [if_neg (by omega)] at hv
  simpa using hv
 ·intro e
  rw [if_pos (by omega)] at hv
  simp at hv
  omega
/-- Valid bindings have small values. -/
theorem BdOk.sm {l:List Bd} (V:BdOk l):∀ b∈l,b.val.natAbs≤1099511627776:=by
 intro b hb
 obtain ⟨i,h,rfl⟩:=List.getElem_of_mem hb
 have:=V.ty i h
 omega
end Go.Proofs.YtedpopbaipnamaaGreatDoor

namespace Go.Proofs.YtedpopbaipnamaaGreatDoor
open Go.RowKit
theorem typeV_any (bs:List Bd) (V:BdOk bs) (Ab:Option Addr) (cb Bb:Nat) (e:Ex) (lo:Nat) (vs:List Value) (w:World) (hL:LiesE w lo vs e) (hlo:lo≤w.heap.size) (hR:RdB w Bb Ab bs) (hBb:Bb≤w.heap.size) :
  Calls Tryz.prog 38 #[.agg vs.toArray,.slice Ab bs.length cb] w (Ret (ansV (typeE bs e)) w):=
 type_any bs Ab cb Bb (by have:=V.len; omega) e lo vs w hL hlo hR hBb (fun W hW=>bound_any bs V Ab cb Bb W (Rd.below' hR hW hBb) (Nat.le_trans hBb hW.size))
theorem typeE_ne (l:List Bd) (e:Ex) (f:Nat) (h:typeE l e=.er f):f≠0:=by
 unfold typeE at h
 by_cases hc:chkE e=0
 ·rw [if_pos hc] at h; exact typE_ne _ _ _ h
 ·rw [if_neg hc] at h; injection h with h; rw [← h]; exact hc
theorem typeE_chk {l:List Bd} {e:Ex} {t:Int} (h:typeE l e=.ok t):chkE e=0:=by
 unfold typeE at h
 by_cases hc:chkE e=0
 ·exact hc
 ·rw [if_neg hc] at h; cases h
set_option maxRecDepth 100000 in
set_option maxHeartbeats 1600000 in
theorem eval_any (bs:List Bd) (V:BdOk bs) (Ab:Option Addr) (cb Bb:Nat) (e:Ex) (lo:Nat) (vs:List Value) (w:World) (hL:LiesE w lo vs e) (hlo:lo≤w.heap.size) (hR:RdB w Bb Ab bs) (hBb:Bb≤w.heap.size) :
  Calls Tryz.prog 41 #[.agg vs.toArray,.slice Ab bs.length cb] w (Ret (ansV (evalE bs e)) w):=by
 have HTY0:∀ W,Below w.heap.size w W→Calls Tryz.prog 38 #[.agg vs.toArray,.slice Ab bs.length cb] W (Ret (ansV (typeE bs e)) W):=fun W hW=>typeV_any bs V Ab cb Bb e lo vs W (hL.below' hW hlo) (Nat.le_trans hlo hW.size) (Rd.below' hR hW hBb) (Nat.le_trans hBb hW.size)
 have HVL0:chkE e=0→∀ W,Below w.heap.size w W→Calls Tryz.prog 61 #[.agg vs.toArray,.slice Ab bs.length cb] W (Ret (ansV (valE bs e)) W):=fun h W hW=>value_any bs Ab cb Bb (by have:=V.len; omega) V.sm e lo vs W (good_of e h).1 (hL.below' hW hlo) (Nat.le_trans hlo hW.size) (Rd.below' hR hW hBb) (Nat.le_trans hBb hW.size)
 obtain ⟨A,cap,rfl,bd,-⟩:=hL.arg
 have HTY:=Lib.hid HTY0
 have HVL:=Lib.hid HVL0
 clear hL hR bd V HTY0 HVL0
 unfold exC ansV Ret at HTY HVL
 unfold exC ansV Ret
 have hO:=one_new w #[.int .i64 e.kind,.int .i64 e.op,.string e.name,.int .i64 e.val,.slice A e.args.length cap] 45
 cases ht:typeE bs e with
 | er f=>
  have hf0:=typeE_ne bs e f ht
  have e1:((f:Int) != 0)=true:=by simpa using hf0
  have e2:(f != 0)=true:=by simpa using hf0
  have HV:Hid (evalE bs e=.er f):=Lib.hid (by unfold evalE; rw [ht])
  rw [ht] at HTY
  simp only [Ans.n,Ans.f] at HTY
  clear hf0 ht HVL
  go_enter Tryz.func41,Tryz.ntmps41
  go_upto_region 1 with fail
  generalize w.alloc _=w1 at hO ⊢
  obtain ⟨x0,x1,x2,x3,x4⟩:=bx5 hO.fst
  go_wp2_with fail
  refine (HTY.out _ hO.below).mono ?_
  rintro e5 w5 ⟨rfl,hb5⟩
  clear x0 x1 x2 x3 x4
  have HB:=Lib.hid (hO.below.trans (hb5.mono hO.below.size))
  clear hb5 hO
  go_wp2_with fail
  go_ret2
  exact ⟨by rw [HV.out]; rfl,HB.out⟩
 | ok t=>
  have hc:=typeE_chk ht
  have HV:Hid (evalE bs e=valE bs e):=Lib.hid (by unfold evalE; rw [ht])
  rw [ht] at HTY
  simp only [Ans.n,Ans.f] at HTY
  replace HVL:=Lib.hid (HVL.out hc)
  clear ht hc
  go_enter Tryz.func41,Tryz.ntmps41
  go_upto_region 1 with fail
  generalize w.alloc _=w1 at hO ⊢
  obtain ⟨x0,x1,x2,x3,x4⟩:=bx5 hO.fst
  go_wp2_with fail
  refine (HTY.out _ hO.below).mono ?_
  rintro e5 w5 ⟨rfl,hb5⟩
  clear x0 x1 x2 x3 x4
  replace hO:=hO.next hb5
  clear hb5
  obtain ⟨x0,x1,x2,x3,x4⟩:=bx5 hO.fst
  go_wp2_with fail
  refine (HVL.out _ hO.below).mono ?_
  rintro e7 w7 ⟨rfl,hb7⟩
  replace hb7:=hO.below.trans (hb7.mono hO.below.size)
  clear x0 x1 x2 x3 x4 hO
  go_wp2_with fail
  go_ret2
  exact ⟨by rw [HV.out]; rfl,hb7⟩
end Go.Proofs.YtedpopbaipnamaaGreatDoor

namespace Go.Proofs.YtedpopbaipnamaaGreatDoor
open Go.RowKit
/-- The attributes' cells: name, type, a function. -/
def atFs:List Nat:=[79,82,83,84,86,87,88,89,90,92,93]
def atCs:List Value:=(kds.zip atFs).flatMap fun x=>[.string x.1.name,.int .i64 x.1.ty,.func (.func x.2) #[] #[]]
theorem kds_len:kds.length=11:=rfl
/-- A slice of the attributes. -/
def AtsR (w:World):Ending→World→Prop:=fun e W=>∃ g off:Nat,e=.returned (.slice (some ⟨g,off,none⟩) 11 11)∧Below w.heap.size w W∧g<W.heap.size ∧
 ∀ (i:Nat) (h:i<kds.length),∃ F:Nat,W.cell? ⟨g,off+i * 3,none⟩=some (.string kds[i].name)∧W.cell? ⟨g,off+i * 3+1,none⟩=some (.int .i64 kds[i].ty)∧W.cell? ⟨g,off+i * 3+2,none⟩=some (.func (.func F) #[] #[])
set_option maxRecDepth 100000 in
theorem attributes_any (w:World):Calls Tryz.prog 58 #[] w (AtsR w):=by
 have key:∀ W,W=w.alloc (.cells atCs.toArray 111)→AtsR w (.returned (.slice (some ⟨w.heap.size,0,none⟩) 11 11)) W:=by
  rintro W rfl
  refine ⟨w.heap.size,0,rfl,below_alloc _ _,by simp,fun i h=>?_⟩
  have hb:=bx_new w atCs.toArray 111
  have hk:=kds_len
  have hc:i=0∨i=1∨i=2∨i=3∨i=4∨i=5∨i=6∨i=7∨i=8∨i=9∨i=10:=by omega
  rcases hc with rfl | rfl | rfl | rfl | rfl | rfl | rfl | rfl | rfl | rfl | rfl <;> exact ⟨_,hb _ _ rfl,hb _ _ rfl,hb _ _ rfl⟩
 have KEY:=Lib.hid key
 clear key
 generalize AtsR w=R at KEY ⊢
 go_enter Tryz.func58,Tryz.ntmps58
 go_wp2_with fail
 exact KEY.out _ rfl
theorem bx_add {W:World} {g:Nat} {cs:List Value} (h:Bx W g cs):∀ j u,cs[j]? = some u→W.cell? ((⟨g,0,none⟩:Addr).add j)=some u:=fun j u hu=>by
 have h1:=h j u hu
 by_cases h0:j=0
 ·subst h0; simpa [Addr.add] using h1
 ·simpa [Addr.add,h0] using h1
theorem bdInfo:(Tryz.prog.info? 50).map (fun i=>(i.zero,i.size,i.bytes))=some (some (.agg #[.string ⟨#[]⟩,.int .i64 0,.int .i64 0]),3,32):=by kernel_rfl
/-- A slice of the attributes' bindings. -/
def KdsR (w:World):Ending→World→Prop:=fun e W=>∃ (A:Option Addr) (c:Nat),e=.returned (.slice A kdB.length c)∧Below w.heap.size w W∧RdB W W.heap.size A kdB
set_option maxRecDepth 100000 in
set_option maxHeartbeats 1600000 in
theorem kinds_any (w:World):Calls Tryz.prog 36 #[] w (KdsR w):=by
 have HAT:=Lib.hid (attributes_any w)
 obtain ⟨i0,hi,hz0,hz1,hz2⟩:=info_parts bdInfo
 have hk11:kds.length=11:=rfl
 unfold AtsR at HAT
 unfold KdsR
 go_enter Tryz.func36,Tryz.ntmps36
 go_wp2_with fail
 refine HAT.out.mono ?_
 rintro e w1 ⟨g,off,rfl,hb1,hg1,hat⟩
 have HA:=Lib.hid hat
 have HK:=Lib.hid hk11
 clear HAT hat hk11
 go_wp2_with fail
 go_loopw [1,6] (fun v i wr=>∃ j:Nat,i=.int .i64 (j:Nat)∧j≤11∧wr.ownsRow w1.heap.size 50 3 v j ((kdB.take j).flatMap Bd.cells)∧Below w1.heap.size w1 wr) (fun _ i _=>11 - (intOf i).toNat)
 case atStart=>exact ⟨0,rfl,by omega,World.ownsRow_nil _ _ _ _,Below.refl _ _⟩
 case round=>
  obtain ⟨j,rfl,hj,hown,hb⟩:=hrel
  have hj0:(0:Int)≤(j:Int):=by omega
  have hwr1:IntKind.i64.wrap ((j:Int)+1)=(j:Int)+1:=by rw [IntKind.wrap_i64]; omega
  by_cases hlt:j<11
  ·have hd1:decide ((j:Int)<11)=true:=decide_eq_true (by omega)
   have hjl:(j:Int)<11:=by omega
   obtain ⟨F,y0,y1,y2⟩:=HA.out j (by rw [HK.out]; exact hlt)
   replace y0:=(hb.cell (p:=⟨g,off+j * 3,none⟩) hg1).trans y0
   replace y1:=(hb.cell (p:=⟨g,off+j * 3+1,none⟩) hg1).trans y1
   replace y2:=(hb.cell (p:=⟨g,off+j * 3+2,none⟩) hg1).trans y2
   have HTK:Hid ((kdB.take (j+1)).flatMap Bd.cells=(kdB.take j).flatMap Bd.cells++[.string (kds[j]'(by rw [HK.out]; exact hlt)).name,.int .i64 (kds[j]'(by rw [HK.out]; exact hlt)).ty,.int .i64 0]):=Lib.hid (by
    have hkl:j<kdB.length:=by simpa [kdB,kds] using hlt
    rw [List.take_add_one,List.getElem?_eq_getElem hkl,List.flatMap_append]
    simp [kdB,Bd.cells])
   generalize (kds[j]'(by rw [HK.out]; exact hlt)).name=nm at y0 HTK
   generalize (kds[j]'(by rw [HK.out]; exact hlt)).ty=ty at y1 HTK
   have hO:=one_new wr #[.string nm,.int .i64 ty,.func (.func F) #[] #[]] 111
   have hown4:=World.ownsRow.alloc hown (.cells #[.string nm,.int .i64 ty,.func (.func F) #[] #[]] 111)
   have hz4:w1.heap.size≤(wr.alloc (.cells #[.string nm,.int .i64 ty,.func (.func F) #[] #[]] 111)).heap.size:=by have:=hb.size; simp; omega
   have HB4:=Lib.hid ((hb.alloc hb.size (.cells #[.string nm,.int .i64 ty,.func (.func F) #[] #[]] 111)))
   clear hown hb
   go_upto_region 5 with fail
   generalize wr.alloc _=w4 at hO hown4 hz4 HB4 ⊢
   obtain ⟨x0,x1,x2⟩:=bx3 hO.fst
   have hmx:j+1≤maxLen:=by unfold maxLen; omega
   have hby:(j+1) * 32≤140737488355328:=by omega
   have hbs:w1.heap.size≤(w4.alloc (.cells #[.string nm,.int .i64 ty,.int .i64 0] 50)).heap.size:=by simp; omega
   have hbx:=bx_new w4 #[.string nm,.int .i64 ty,.int .i64 0] 50
   have hbl6:=Lib.hid (HB4.out.alloc hz4 (.cells #[.string nm,.int .i64 ty,.int .i64 0] 50))
   have HBX:=Lib.hid (bx_add hbx)
   clear hbx hO
   go_wp2_with (at_builtin; refine wpList_append_own _ rfl (.tmp 10) (.tmp 16) _ rfl w1.heap.size 50 i0 (.agg #[.string ⟨#[]⟩,.int .i64 0,.int .i64 0]) 3 32 Tryz.underlying30 hi hz0 hz1 hz2 rfl (by omega) _ _ _ rfl (World.ownsRow.alloc hown4 _) ⟨w4.heap.size,0,none⟩ 1 1 [.string nm,.int .i64 ty,.int .i64 0] rfl rfl HBX.out (by simp [Value.oneCell']) hmx hby hbs ?_; intro v2 w6 hown6 hg6 _)
   exact ⟨⟨j+1,by go_num,by omega,by rw [HTK.out]; exact hown6,hbl6.out.grown hg6 hbs (fun g e=>(World.ownsRow.lt hown4 g e).1)⟩,by simp [intOf]; omega⟩
  ·have hd1:decide ((j:Int)<11)=false:=decide_eq_false (by omega)
   obtain rfl:j=11:=by omega
   have hlen:(kdB.take 11)=kdB:=rfl
   rw [hlen] at hown
   obtain ⟨g2,gc,rfl,-,hgl⟩:=hown.form (by omega)
   have hlt2:=World.ownsRow.lt hown g2 rfl
   have HR:Hid (RdB wr wr.heap.size (some ⟨g2,0,none⟩) kdB):=Lib.hid (by
    refine ⟨rfl,.inr ⟨g2,0,rfl,hlt2.2,fun j u hu=>?_⟩⟩
    have:=hown.cells (g:=g2) rfl j u hu
    by_cases h0:j=0
    ·subst h0; simpa [Addr.add] using this
    ·simpa [Addr.add,h0] using this)
   have HB:=Lib.hid (hb1.trans (hb.mono hb1.size))
   clear hown hb hlen hlt hgl hlt2
   go_wp2_with fail
   go_ret
   exact ⟨_,_,rfl,HB.out,HR.out⟩
end Go.Proofs.YtedpopbaipnamaaGreatDoor

namespace Go.Proofs.YtedpopbaipnamaaGreatDoor
open Go.RowKit
def tyB (bs:List Bd) (e:Ex) (t:Int):Nat:=match typeE bs e with | .er f=>f | .ok n=>if n=t then 0 else 15
set_option maxRecDepth 100000 in
set_option maxHeartbeats 1600000 in
theorem pck1_any (bs:List Bd) (V:BdOk bs) (Ab:Option Addr) (cb Bb g:Nat) (t:Int) (e:Ex) (lo:Nat) (vs:List Value) (w:World) (hL:LiesE w lo vs e) (hlo:lo≤w.heap.size) (hR:RdB w Bb Ab bs) (hBb:Bb≤w.heap.size) (hg:w.cell? ⟨g,0,none⟩=some (.slice Ab bs.length cb)) :
  Calls Tryz.prog 37 #[.agg vs.toArray,.int .i64 t,.pointer (some ⟨g,0,none⟩)] w (Ret (.int .i64 (tyB bs e t:Nat)) w):=by
 have HTY0:∀ W,Below w.heap.size w W→Calls Tryz.prog 38 #[.agg vs.toArray,.slice Ab bs.length cb] W (Ret (ansV (typeE bs e)) W):=fun W hW=>typeV_any bs V Ab cb Bb e lo vs W (hL.below' hW hlo) (Nat.le_trans hlo hW.size) (Rd.below' hR hW hBb) (Nat.le_trans hBb hW.size)
 obtain ⟨A,cap,rfl,bd,-⟩:=hL.arg
 have HTY:=Lib.hid HTY0
 have hO:=one_new w #[.int .i64 e.kind,.int .i64 e.op,.string e.name,.int .i64 e.val,.slice A e.args.length cap] 45
 have hga:=(World.cell?_alloc_lt w (.cells #[.int .i64 e.kind,.int .i64 e.op,.string e.name,.int .i64 e.val,.slice A e.args.length cap] 45) ⟨g,0,none⟩ (World.block_lt_of_cell? _ _ hg)).trans hg
 clear hL hR bd V HTY0 hg
 unfold exC ansV Ret at HTY
 unfold exC Ret
 cases ht:typeE bs e with
 | er f=>
  have hf0:=typeE_ne bs e f ht
  have e1:((f:Int) == 0)=false:=by simpa using hf0
  have e2:(f == 0)=false:=by simpa using hf0
  have HV:Hid (tyB bs e t=f):=Lib.hid (by unfold tyB; rw [ht])
  rw [ht] at HTY
  simp only [Ans.n,Ans.f] at HTY
  clear hf0 ht
  go_enter Tryz.func37,Tryz.ntmps37
  go_upto_region 1 with fail
  generalize w.alloc _=w1 at hO hga ⊢
  obtain ⟨x0,x1,x2,x3,x4⟩:=bx5 hO.fst
  go_wp2_with fail
  refine (HTY.out _ hO.below).mono ?_
  rintro e5 w5 ⟨rfl,hb5⟩
  clear x0 x1 x2 x3 x4 hga
  have HB:=Lib.hid (hO.below.trans (hb5.mono hO.below.size))
  clear hb5 hO
  go_wp2_with fail
  go_ret
  exact ⟨by rw [HV.out]; rfl,HB.out⟩
 | ok n=>
  rw [ht] at HTY
  simp only [Ans.n,Ans.f] at HTY
  by_cases hn:n=t
  ·have HV:Hid (tyB bs e t=0):=Lib.hid (by unfold tyB; rw [ht]; simp only; rw [if_pos hn])
   have e1:(n != t)=false:=by simpa using hn
   clear ht hn
   go_enter Tryz.func37,Tryz.ntmps37
   go_upto_region 1 with fail
   generalize w.alloc _=w1 at hO hga ⊢
   obtain ⟨x0,x1,x2,x3,x4⟩:=bx5 hO.fst
   go_wp2_with fail
   refine (HTY.out _ hO.below).mono ?_
   rintro e5 w5 ⟨rfl,hb5⟩
   clear x0 x1 x2 x3 x4 hga
   have HB:=Lib.hid (hO.below.trans (hb5.mono hO.below.size))
   clear hb5 hO
   go_wp2_with fail
   go_ret
   exact ⟨by rw [HV.out]; rfl,HB.out⟩
  ·have HV:Hid (tyB bs e t=15):=Lib.hid (by unfold tyB; rw [ht]; simp only; rw [if_neg hn])
   have e1:(n != t)=true:=by simpa using hn
   clear ht hn
   go_enter Tryz.func37,Tryz.ntmps37
   go_upto_region 1 with fail
   generalize w.alloc _=w1 at hO hga ⊢
   obtain ⟨x0,x1,x2,x3,x4⟩:=bx5 hO.fst
   go_wp2_with fail
   refine (HTY.out _ hO.below).mono ?_
   rintro e5 w5 ⟨rfl,hb5⟩
   clear x0 x1 x2 x3 x4 hga
   have HB:=Lib.hid (hO.below.trans (hb5.mono hO.below.size))
   clear hb5 hO
   go_wp2_with fail
   go_ret
   exact ⟨by rw [HV.out]; rfl,HB.out⟩
theorem chkR_at {rs:List Rl} {j:Nat} (h0:chkR (rs.take j)=0) (hj:j<rs.length):(tyE rs[j].cond 2≠0→chkR rs=tyE rs[j].cond 2)∧(tyE rs[j].cond 2=0→tyE rs[j].key 1≠0→chkR rs=tyE rs[j].key 1)∧(tyE rs[j].cond 2=0→tyE rs[j].key 1=0→chkR (rs.take (j+1))=0):=by
 have e:chkR rs=chkR (rs.drop j):=by
  conv=>lhs; rw [← List.take_append_drop j rs]
  rw [chkR_append,if_pos h0]
 rw [List.drop_eq_getElem_cons hj] at e
 refine ⟨fun h=>?_,fun h1 h2=>?_,fun h1 h2=>?_⟩
 ·rw [e,chkR,if_neg h]
 ·rw [e,chkR,if_pos h1,if_neg h2]
 ·rw [List.take_add_one,List.getElem?_eq_getElem hj,chkR_append,if_pos h0]
  simp [chkR,h1,h2]
theorem bx10 {W:World} {g:Nat} {a b c d e f h i j k:Value} (hb:Bx W g [a,b,c,d,e,f,h,i,j,k]):W.cell? ⟨g,0,none⟩=some a∧W.cell? ⟨g,1,none⟩=some b∧W.cell? ⟨g,2,none⟩=some c∧W.cell? ⟨g,3,none⟩=some d∧W.cell? ⟨g,4,none⟩=some e∧W.cell? ⟨g,5,none⟩=some f∧W.cell? ⟨g,6,none⟩=some h∧W.cell? ⟨g,7,none⟩=some i∧W.cell? ⟨g,8,none⟩=some j∧W.cell? ⟨g,9,none⟩=some k:=⟨hb 0 _ rfl,hb 1 _ rfl,hb 2 _ rfl,hb 3 _ rfl,hb 4 _ rfl,hb 5 _ rfl,hb 6 _ rfl,hb 7 _ rfl,hb 8 _ rfl,hb 9 _ rfl⟩
set_option maxRecDepth 100000 in
set_option maxHeartbeats 3200000 in
theorem pck_any (A:Option Addr) (c B:Nat) (rs:List Rl) (w:World) (hP:LiesP w B A c rs) (hB:B≤w.heap.size) :
  Calls Tryz.prog 17 #[.agg #[.slice A rs.length c]] w (Ret (.int .i64 (chkP rs:Nat)) w):=by
 have hl:=hP.len
 have HP:=Lib.hid hP
 have hO:=one_new w #[.slice A rs.length c] 24
 unfold Ret
 clear hP
 by_cases h16:16<rs.length
 ·have e1:decide ((rs.length:Int) > 16)=true:=decide_eq_true (by omega)
  have e2:decide (16<(rs.length:Int))=true:=decide_eq_true (by omega)
  have e3:decide (16<rs.length)=true:=decide_eq_true h16
  have HV:Hid (chkP rs=4):=Lib.hid (by unfold chkP; rw [if_pos h16])
  clear h16
  go_enter Tryz.func17,Tryz.ntmps17
  go_upto_region 1 with fail
  generalize w.alloc _=w1 at hO ⊢
  have x0:=hO.fst 0 _ rfl
  go_wp2_with fail
  go_ret
  exact ⟨by rw [HV.out]; rfl,hO.below⟩
 ·have e1:decide ((rs.length:Int) > 16)=false:=decide_eq_false (by omega)
  have e2:decide (16<(rs.length:Int))=false:=decide_eq_false (by omega)
  have e3:decide (16<rs.length)=false:=decide_eq_false h16
  have HCP:Hid (chkP rs=chkR rs):=Lib.hid (by unfold chkP; rw [if_neg h16])
  have HK:=Lib.hid (fun W=>kinds_any W)
  unfold KdsR at HK
  obtain ⟨ks,hks⟩:∃ ks,ks=kdB:=⟨_,rfl⟩
  rw [← hks] at HK
  have HKS:=Lib.hid hks
  have hmf:∀ (fn:Fn) (first cap:Array Value) (w:World),(Instr.makeFunc fn first cap).run Tryz.prog w=.ok (.func fn first cap) w:=fun _ _ _ _=>rfl
  clear h16 hks
  go_enter Tryz.func17,Tryz.ntmps17
  go_upto_region 1 with fail
  generalize w.alloc _=w1 at hO ⊢
  have x0:=hO.fst 0 _ rfl
  go_wp2_with fail
  refine (HK.out _).mono ?_
  rintro e w2 ⟨Ak,ck,rfl,hb2,hRk⟩
  clear x0
  replace hO:=hO.next hb2
  have hO2:=one_new w2 #[.slice Ak ks.length ck] 30
  have hO1:=hO.next (below_alloc w2 (.cells #[.slice Ak ks.length ck] 30))
  have HRK:Hid (RdB (w2.alloc (.cells #[.slice Ak ks.length ck] 30)) w2.heap.size Ak ks):=Lib.hid (Rd.below' hRk (below_alloc _ _) (Nat.le_refl _))
  have hz2:=hO.size
  clear hb2 hRk hO HK
  go_upto_region 5 with fail
  generalize w2.alloc _=w3 at hO1 hO2 HRK ⊢
  have x0:=hO1.fst 0 _ rfl
  have HC3:=Lib.hid (hO2.fst 0 _ rfl)
  have hz3:=hO2.size
  go_wp2_with fail
  go_loopw [2,18] (fun r i wr=>r=.int .i64 0∧∃ j:Nat,i=.int .i64 (j:Nat)∧j≤rs.length∧Hid (chkR (rs.take j)=0)∧Below w3.heap.size w3 wr) (fun _ i _=>rs.length - (intOf i).toNat)
  case atStart=>exact ⟨rfl,0,rfl,Nat.zero_le _,Lib.hid rfl,Below.refl _ _⟩
  case round=>
   obtain ⟨rfl,j,rfl,hj,hck,hb⟩:=hrel
   have hj0:(0:Int)≤(j:Int):=by omega
   have HBW:Hid (Below w.heap.size w wr):=Lib.hid (hO1.below.trans (hb.mono hO1.below.size))
   by_cases hlt:j<rs.length
   ·have hd1:decide ((j:Int)<(rs.length:Int))=true:=decide_eq_true (by omega)
    have hwr1:IntKind.i64.wrap ((j:Int)+1)=(j:Int)+1:=by rw [IntKind.wrap_i64]; omega
    have hd2:decide (j<rs.length)=true:=decide_eq_true hlt
    have hjl:(j:Int)<(rs.length:Int):=by omega
    obtain ⟨b,off,k,o,n,v,A1,m1,c1,k2,o2,n2,v2,A2,m2,c2,rfl,hb1,hL1,hL2,y0,y1,y2,y3,y4,y5,y6,y7,y8,y9⟩:=(HP.out.below' HBW.out hB).at_ j hlt
    have hO4:=one_new wr #[.int .i64 k,.int .i64 o,.string n,.int .i64 v,.slice A1 m1 c1,.int .i64 k2,.int .i64 o2,.string n2,.int .i64 v2,.slice A2 m2 c2] 47
    have HB:=Lib.hid hb
    have hlo:B≤wr.heap.size:=Nat.le_trans hB HBW.out.size
    have HSTEP:=Lib.hid (chkR_at hck.out hlt)
    have HT1:Hid (∀ W,Below wr.heap.size wr W→Calls Tryz.prog 37 #[.agg (exC k o n v A1 m1 c1).toArray,.int .i64 2,.pointer (some ⟨w2.heap.size,0,none⟩)] W (Ret (.int .i64 (tyE rs[j].cond 2:Nat)) W)):=Lib.hid (fun W hW=>by
     have hV:BdOk ks:=by rw [HKS.out]; exact bdok_kd
     have h3:=HB.out.trans (hW.mono HB.out.size)
     have:=pck1_any ks hV Ak ck w2.heap.size w2.heap.size 2 rs[j].cond B _ W (hL1.below' hW hlo) (Nat.le_trans hlo hW.size) (Rd.below' HRK.out h3 (by omega)) (by have:=h3.size; omega) ((h3.cell (p:=⟨w2.heap.size,0,none⟩) (by show w2.heap.size<w3.heap.size; omega)).trans HC3.out)
     rwa [show tyB ks rs[j].cond 2=tyE rs[j].cond 2 from by rw [HKS.out]; rfl] at this)
    have HT2:Hid (∀ W,Below wr.heap.size wr W→Calls Tryz.prog 37 #[.agg (exC k2 o2 n2 v2 A2 m2 c2).toArray,.int .i64 1,.pointer (some ⟨w2.heap.size,0,none⟩)] W (Ret (.int .i64 (tyE rs[j].key 1:Nat)) W)):=Lib.hid (fun W hW=>by
     have hV:BdOk ks:=by rw [HKS.out]; exact bdok_kd
     have h3:=HB.out.trans (hW.mono HB.out.size)
     have:=pck1_any ks hV Ak ck w2.heap.size w2.heap.size 1 rs[j].key B _ W (hL2.below' hW hlo) (Nat.le_trans hlo hW.size) (Rd.below' HRK.out h3 (by omega)) (by have:=h3.size; omega) ((h3.cell (p:=⟨w2.heap.size,0,none⟩) (by show w2.heap.size<w3.heap.size; omega)).trans HC3.out)
     rwa [show tyB ks rs[j].key 1=tyE rs[j].key 1 from by rw [HKS.out]; rfl] at this)
    generalize tyE rs[j].cond 2=f1 at HT1 HSTEP
    generalize tyE rs[j].key 1=f2 at HT2 HSTEP
    unfold exC Ret at HT1 HT2
    have HO1:=Lib.hid hO1
    have HO2:=Lib.hid hO2
    clear hb hck hL1 hL2 x0 hO1 hO2
    go_upto_region 8 with fail
    clear y0 y1 y2 y3 y4 y5 y6 y7 y8 y9
    generalize wr.alloc _=w4 at hO4 ⊢
    obtain ⟨q0,q1,q2,q3,q4,q5,q6,q7,q8,q9⟩:=bx10 hO4.fst
    by_cases h1:f1=0
    rotate_left
    ·have e1:((f1:Int) != 0)=true:=by simpa using h1
     have e2:(f1 != 0)=true:=by simpa using h1
     have HV:=Lib.hid (HSTEP.out.1 h1)
     clear h1
     go_wp2_with fail
     refine (HT1.out _ hO4.below).mono ?_
     rintro e w5 ⟨rfl,hb5⟩
     have HB9:=Lib.hid (HBW.out.trans ((hO4.below.trans (hb5.mono hO4.below.size)).mono HBW.out.size))
     clear q0 q1 q2 q3 q4 q5 q6 q7 q8 q9 hb5 hO4
     go_wp2_with fail
     go_ret
     exact ⟨by rw [HCP.out,HV.out]; rfl,HB9.out⟩
    ·subst h1
     go_wp2_with fail
     refine (HT1.out _ hO4.below).mono ?_
     rintro e w5 ⟨rfl,hb5⟩
     replace hO4:=hO4.next hb5
     clear q0 q1 q2 q3 q4 q5 q6 q7 q8 q9 hb5
     obtain ⟨q0,q1,q2,q3,q4,q5,q6,q7,q8,q9⟩:=bx10 hO4.fst
     by_cases h2:f2=0
     rotate_left
     ·have e1:((f2:Int) != 0)=true:=by simpa using h2
      have e2:(f2 != 0)=true:=by simpa using h2
      have HV:=Lib.hid (HSTEP.out.2.1 (by first | rfl | exact True.intro) h2)
      clear h2
      go_wp2_with fail
      refine (HT2.out _ hO4.below).mono ?_
      rintro e w6 ⟨rfl,hb6⟩
      have HB9:=Lib.hid (HBW.out.trans ((hO4.below.trans (hb6.mono hO4.below.size)).mono HBW.out.size))
      clear q0 q1 q2 q3 q4 q5 q6 q7 q8 q9 hb6 hO4
      go_wp2_with fail
      go_ret
      exact ⟨by rw [HCP.out,HV.out]; rfl,HB9.out⟩
     ·subst h2
      have HV:=Lib.hid (HSTEP.out.2.2 (by first | rfl | exact True.intro) (by first | rfl | exact True.intro))
      go_wp2_with fail
      refine (HT2.out _ hO4.below).mono ?_
      rintro e w6 ⟨rfl,hb6⟩
      have HB9:=Lib.hid (HB.out.trans ((hO4.below.trans (hb6.mono hO4.below.size)).mono HB.out.size))
      clear q0 q1 q2 q3 q4 q5 q6 q7 q8 q9 hb6 hO4
      go_wp2_with fail
      exact ⟨⟨rfl,j+1,by go_num,by omega,Lib.hid HV.out,HB9.out⟩,by simp [intOf]; omega⟩
   ·have hd1:decide ((j:Int)<(rs.length:Int))=false:=decide_eq_false (by omega)
    have hd2:decide (j<rs.length)=false:=decide_eq_false hlt
    have HV:Hid (chkR rs=0):=Lib.hid (by
     have:=hck.out
     rwa [List.take_of_length_le (by omega)] at this)
    clear hck
    go_wp2_with fail
    go_ret
    exact ⟨by rw [HCP.out,HV.out]; rfl,HBW.out⟩
end Go.Proofs.YtedpopbaipnamaaGreatDoor
