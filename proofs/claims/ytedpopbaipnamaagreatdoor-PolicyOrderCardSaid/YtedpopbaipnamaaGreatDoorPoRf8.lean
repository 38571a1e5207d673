/- nurseryref09.eval, walked. Conditions: the expression and the bindings lie in memory, all parts are valid, and it has a type. -/
import Derived.Test.YtedpopbaipnamaaGreatDoorPoRf6
import Derived.Test.YtedpopbaipnamaaGreatDoorPoRf7
import Derived.Test.YtedpopbaipnamaaGreatDoorPoVal
import Derived.BigQuiet
import Derived.Lib.QuietBelow
import Derived.Test.YtedpopbaipnamaaGreatDoorPoRf2
import Derived.Test.YtedpopbaipnamaaGreatDoorPoRf5
import Derived.Test.YtedpopbaipnamaaGreatDoorPoBnd
import Derived.Test.YtedpopbaipnamaaGreatDoorPoAwM
import Derived.Test.YtedpopbaipnamaaGreatDoorPoGr2
import Derived.Deep.RegionHeld3
namespace Go.Proofs.YtedpopbaipnamaaGreatDoor
open Go.RowKit Go.Sort
theorem typL_each {l:List Bd}:∀ {zs:List Ex} {acc ts:List Int},typL l (.ok acc) zs=.ok ts→∀ a∈zs,∃ t,typE l a=.ok t
 | [],_,_,_,a,ha=>by cases ha
 | b::zs,acc,ts,h,a,ha=>by
  simp only [typL] at h
  cases e:typE l b with
  | er f=>rw [e] at h; simp only [AnsL.push] at h; rw [typL_er] at h; cases h
  | ok n=>
   rw [e] at h
   rcases List.mem_cons.1 ha with rfl | ha
   ·exact ⟨n,e⟩
   ·exact typL_each h a ha
theorem typE_each {l:List Bd} {k o:Int} {n:ByteArray} {v:Int} {zs:List Ex} {t:Int} (h:typE l (.mk k o n v zs)=.ok t):∀ a∈zs,∃ t,typE l a=.ok t:=by
 rw [typE_mk] at h
 cases e:typL l (.ok []) zs with
 | er f=>rw [e] at h; cases h
 | ok ts=>exact typL_each e
set_option maxRecDepth 100000 in
set_option maxHeartbeats 12800000 in
theorem reval_any (bs:List Bd) (V:BdOk bs) (Ab:Option Addr) (cb Bb:Nat) (hbl:bs.length≤140737488355328):∀ (e:Ex) (lo:Nat) (vs:List Value) (w:World) (tt:Int),Good e→typE bs e=.ok tt→LiesE w lo vs e→lo≤w.heap.size→RdB w Bb Ab bs→Bb≤w.heap.size →
  Calls Tryz.prog 100 #[.agg vs.toArray,.slice Ab bs.length cb] w (Ret (ansV (valE bs e)) w):=by
 intro e
 induction e using Ex.ind with
 | h k o n v xs ih=>
  intro lo vs w tt hG hty hL hlo hR hBb
  obtain ⟨A,cap,rfl,bd,harg⟩:=hL.arg
  obtain ⟨i0,hi,hz0,hz1,hz2⟩:=info_parts intInfo
  have hP:=part_of hG.self
  have hlen:xs.length≤2:=by
   have h1:=hP.len
   simp only [Ex.args,Ex.kind] at h1
   rw [h1]; unfold argsN; split
   ·omega
   ·split <;> omega
  have hO:=two_new w #[.int .i64 k,.int .i64 o,.string n,.int .i64 v,.slice A xs.length cap] #[] 45 3
  have hz:((w.alloc (.cells #[.int .i64 k,.int .i64 o,.string n,.int .i64 v,.slice A xs.length cap] 45)).alloc (.cells #[] 3)).heap.size=w.heap.size+2:=by simp
  have hz':(w.alloc (.cells #[.int .i64 k,.int .i64 o,.string n,.int .i64 v,.slice A xs.length cap] 45)).heap.size=w.heap.size+1:=by simp
  have hown0:((w.alloc (.cells #[.int .i64 k,.int .i64 o,.string n,.int .i64 v,.slice A xs.length cap] 45)).alloc (.cells #[] 3)).ownsRow (w.heap.size+1) 3 1 (.slice (some ⟨w.heap.size+1,0,none⟩) 0 0) 0 []:=by
   have:=heap_alloc_new (w.alloc (.cells #[.int .i64 k,.int .i64 o,.string n,.int .i64 v,.slice A xs.length cap] 45)) (.cells #[] 3)
   rw [hz'] at this
   exact ⟨rfl,.inr ⟨w.heap.size+1,0,#[],rfl,Nat.le_refl _,this,Nat.le_refl _,Nat.zero_le _,rfl,rfl⟩⟩
  have HARG:=Lib.hid harg
  have HIH:=Lib.hid (fun a ha=>ih a ha)
  have HG:=Lib.hid (fun a (ha:a∈xs)=>hG.arg ha)
  have HR:=Lib.hid hR
  have HEA:=Lib.hid (typE_each hty)
  have HTY:=Lib.hid hty
  have HV0:=Lib.hid V
  have HG0:=Lib.hid hG
  have HP:=Lib.hid hP
  simp only [Ex.kind,Ex.op,Ex.name,Ex.val,Ex.args] at HARG HP ⊢
  clear harg ih hL bd hG hR hP hty V
  unfold exC Ret
  go_enter Tryz.func100,Tryz.ntmps100
  go_upto_region 2 with fail
  generalize World.alloc _ _=w1 at hO hz hown0 ⊢
  have HOWN0:=Lib.hid hown0
  have HLEN:=Lib.hid hlen
  clear hown0 hz'
  go_wp2_with fail
  go_loopw [4,5,6,7,8,9] (fun r4 r5 tv i _ _ wr=>r4=.int .i64 0∧r5=.int .i64 0∧∃ (j:Nat) (ts:List Int),i=.int .i64 (j:Nat)∧j≤xs.length∧Hid (valL bs (.ok []) (xs.take j)=.ok ts)∧wr.ownsRow (w.heap.size+1) 3 1 tv ts.length (i64s ts)∧Hid (Below (w.heap.size+1) w1 wr)) (fun _ _ _ i _ _ _=>xs.length - (intOf i).toNat)
  case atStart=>exact ⟨rfl,rfl,0,[],rfl,Nat.zero_le _,Lib.hid (by simp [valL]),HOWN0.out,Lib.hid (Below.refl _ _)⟩
  case round=>
   obtain ⟨rfl,rfl,j,ts,rfl,hj,hts,hown,HBB⟩:=hrel
   have hj0:(0:Int)≤(j:Int):=by omega
   have hwr1:IntKind.i64.wrap ((j:Int)+1)=(j:Int)+1:=by rw [IntKind.wrap_i64]; omega
   have hbw:Below w.heap.size w wr:=hO.below.trans (HBB.out.mono (Nat.le_succ _))
   have hz3:w.heap.size+1≤wr.heap.size:=by have:=HBB.out.size; omega
   have htl:ts.length=j:=by
    have:=valL_len bs _ _ _ hts.out
    simp [List.length_take] at this; omega
   have hBx:=hO.fst.below HBB.out (by omega)
   obtain ⟨x0,x1,x2,x3,x4⟩:=bx5 hBx
   clear hBx
   by_cases hlt:j<xs.length
   ·have hd1:decide ((j:Int)<(xs.length:Int))=true:=decide_eq_true (by omega)
    have hd3:decide (j<xs.length)=true:=decide_eq_true hlt
    have hjl:(j:Int)<(xs.length:Int):=by omega
    obtain ⟨b1,off,k1,o1,n1,v1,A1,m1,cap1,rfl,hb1,hL1,y0,y1,y2,y3,y4⟩:=HARG.out j hlt
    have z0:=(hbw.cell (p:=⟨b1,off+j * 5,none⟩) (by show b1<w.heap.size; omega)).trans y0
    have z1:=(hbw.cell (p:=⟨b1,off+j * 5+1,none⟩) (by show b1<w.heap.size; omega)).trans y1
    have z2:=(hbw.cell (p:=⟨b1,off+j * 5+2,none⟩) (by show b1<w.heap.size; omega)).trans y2
    have z3:=(hbw.cell (p:=⟨b1,off+j * 5+3,none⟩) (by show b1<w.heap.size; omega)).trans y3
    have z4:=(hbw.cell (p:=⟨b1,off+j * 5+4,none⟩) (by show b1<w.heap.size; omega)).trans y4
    obtain ⟨tj,htj⟩:=HEA.out xs[j] (List.getElem_mem _)
    have hs:=HIH.out xs[j] (List.getElem_mem _) lo (exC k1 o1 n1 v1 A1 m1 cap1) wr tj (HG.out _ (List.getElem_mem _)) htj (hL1.below' hbw hlo) (by omega) (Rd.below' HR.out hbw hBb) (by omega)
    unfold exC ansV at hs
    have HS:=Lib.hid hs
    clear htj
    have HTK:=Lib.hid (valL_take bs xs j hlt)
    have HER:Hid (∀ f,valE bs xs[j]=.er f→valE bs (Ex.mk k o n v xs)=.er f∧f≠0):=Lib.hid (fun f hf=>⟨by rw [valE_mk,valL_split bs xs j f hlt ts hts.out hf],valE_ne bs _ f hf⟩)
    have HBW:=Lib.hid hbw
    have HO:=Lib.hid hO
    have HOWN:=Lib.hid hown
    clear hs hL1 hbw y0 y1 y2 y3 y4 hO hown
    cases hans:valE bs xs[j] with
    | er f=>
     have HE:=Lib.hid (HER.out f hans)
     have hf0:=HE.out.2
     have e1:((f:Int) != 0)=true:=by simpa using hf0
     have e2:(f != 0)=true:=by simpa using hf0
     rw [hans] at HS
     simp only [Ans.n,Ans.f] at HS
     clear hf0 hans HER
     go_wp2_with fail
     refine HS.out.mono ?_
     rintro e w5 ⟨rfl,hb5⟩
     clear x0 x1 x2 x3 x4 z0 z1 z2 z3 z4 HS
     go_wp2_with fail
     go_ret2
     exact ⟨by rw [HE.out.1]; rfl,HBW.out.trans (hb5.mono HBW.out.size)⟩
    | ok t=>
     rw [hans] at HS
     simp only [Ans.n,Ans.f] at HS
     have HT2:Hid (valL bs (.ok []) (xs.take (j+1))=.ok (ts++[t])):=Lib.hid (by rw [HTK.out,hts.out,hans]; rfl)
     clear hans HER HTK hts
     go_wp2_with fail
     refine HS.out.mono ?_
     rintro e w5 ⟨rfl,hb5⟩
     have hown5:=own_next HOWN.out hb5
     have hbb5:Below (w.heap.size+1) w1 w5:=HBB.out.trans (hb5.mono (by omega))
     have hz5:w.heap.size+1≤w5.heap.size:=by have:=hb5.size; omega
     have hmx:ts.length+1≤maxLen:=by unfold maxLen; omega
     have hby:(ts.length+1) * 8≤140737488355328:=by omega
     have hbs:w.heap.size+1≤(w5.alloc (.cells #[.int .i64 t] 3)).heap.size:=by simp; omega
     have hbl6:=hbb5.trans ((below_alloc w5 (.cells #[.int .i64 t] 3)).mono hz5)
     clear x0 x1 x2 x3 x4 z0 z1 z2 z3 z4 HS hb5
     go_wp2_with (at_builtin; refine wpList_append_own _ rfl (.tmp 35) (.tmp 37) _ rfl (w.heap.size+1) 3 i0 (.int .i64 0) 1 8 Tryz.underlying36 hi hz0 hz1 hz2 rfl (by omega) _ _ _ rfl (World.ownsRow.alloc hown5 _) ⟨w5.heap.size,0,none⟩ 1 1 [.int .i64 t] rfl rfl (cell_one _ _ _) (by simp [Value.oneCell']) hmx hby hbs ?_; intro v2 w6 hown6 hg6 _)
     exact ⟨⟨rfl,rfl,j+1,ts++[t],by go_num,by omega,HT2,by rw [List.length_append,i64s_append]; exact hown6,Lib.hid (hbl6.grown hg6 hbs (fun g e=>(World.ownsRow.lt hown5 g e).1))⟩,by simp [intOf]; omega⟩
   ·have hd1:decide ((j:Int)<(xs.length:Int))=false:=decide_eq_false (by omega)
    have hd3:decide (j<xs.length)=false:=decide_eq_false hlt
    have HTS:Hid (valE bs (Ex.mk k o n v xs)=val1 bs k o n v ts):=Lib.hid (by
     have:=hts.out
     rw [List.take_of_length_le (by omega)] at this
     rw [valE_mk,this])
    have HVL:Hid (valL bs (.ok []) xs=.ok ts):=Lib.hid (by have:=hts.out; rwa [List.take_of_length_le (by omega)] at this)
    have hlk:ts.length=argsN k:=by have h1:=HP.out.len; simp only [Ex.args,Ex.kind] at h1; omega
    have HLK:=Lib.hid hlk
    have HO:=Lib.hid hO
    have HBW:=Lib.hid hbw
    have HOWN:=Lib.hid hown
    have hk1:=HP.out.lo
    have hk4:=HP.out.hi
    simp only [Ex.kind] at hk1 hk4
    have hkk:k=1∨k=2∨k=3∨k=4:=by omega
    clear hts htl hlk hO hbw hj hlt hown hk1 hk4
    rcases hkk with rfl | rfl | rfl | rfl
    ·have HV:Hid (valE bs (Ex.mk 1 o n v xs)=.ok v):=Lib.hid (by
      rw [HTS.out]
      have:=HP.out.range rfl
      simp only [Ex.val] at this
      show capA (.ok v)=_
      exact capA_id (by omega))
     clear HTS
     go_wp2_with fail
     go_ret2
     exact ⟨by rw [HV.out]; rfl,HBW.out⟩
    ·have HFN:=Lib.hid (rfind_any Ab cb Bb bs n wr (Rd.below' HR.out HBW.out hBb) (Nat.le_trans hBb HBW.out.size) hbl)
     obtain ⟨b,hfb⟩:∃ b,findB bs n=some b:=by
      have h:=HTY.out
      rw [typE_mk] at h
      cases e:typL bs (.ok []) xs with
      | er f=>rw [e] at h; cases h
      | ok us=>
       rw [e] at h
       have h:typ1 bs 2 o n us=.ok tt:=h
       cases e2:findB bs n with
       | some b=>exact ⟨b,rfl⟩
       | none=>simp [typ1,e2] at h
     have HT1:Hid (valE bs (Ex.mk 2 o n v xs)=.ok b.val):=Lib.hid (by
      rw [HTS.out]
      show capA (.ok (match findB bs n with | none=>0 | some b=>b.val))=_
      rw [hfb]
      exact capA_id (HV0.out.sm b (find_mem hfb)))
     rw [hfb] at HFN
     clear HTS hfb
     unfold fndV Ret at HFN
     dsimp only at HFN
     go_wp2_with (go_at_call 140; refine HFN.out.mono ?_; rintro e w5 ⟨rfl,hb5⟩)
     go_ret2
     exact ⟨by rw [HT1.out]; rfl,(HBW.out.trans (hb5.mono HBW.out.size)).alloc (Nat.le_trans HBW.out.size hb5.size) _⟩
    ·have hun:=HP.out.un rfl
     simp only [Ex.op] at hun
     have hl1:ts.length=1:=HLK.out
     obtain ⟨g,gc,hgv,-,hgl⟩:=HOWN.out.form (by have:=HLK.out; simp only [argsN] at this; simp at this; omega)
     subst hgv
     have HC:Hid (∀ (q:Nat) (h:q<ts.length),wr.cell? ⟨g,q,none⟩=some (.int .i64 ts[q])):=Lib.hid (fun q h=>by
      have:=HOWN.out.cells (g:=g) rfl q _ (i64s_at ts q h)
      rw [Addr.add_lit,Nat.zero_add] at this
      exact this)
     have HBDS:=Lib.hid (valL_bd bs xs [] ts (by simp) HVL.out)
     have c0:=HC.out 0 (by omega)
     have HB0:=Lib.hid (HBDS.out ts[0] (List.getElem_mem _))
     have hxl:xs.length=1:=by have h1:=HP.out.len; simpa [Ex.args,Ex.kind,argsN] using h1
     have HVX:Hid (valE bs (xs[0]'(by omega))=.ok (ts[0]'(by omega))):=Lib.hid (by
      have h:=HVL.out
      obtain ⟨a,rfl⟩:=List.length_eq_one_iff.1 hxl
      simp only [valL,AnsL.push] at h
      cases e:valE bs a with
      | er f=>rw [e] at h; cases h
      | ok y=>
       rw [e] at h
       simp only [AnsL.ok.injEq,List.nil_append] at h
       subst h
       exact e)
     have HD:Hid (ts.getD 0 0=ts[0]):=Lib.hid (by simp [List.getD,List.getElem?_eq_getElem (show 0<ts.length by omega)])
     rcases hun with rfl | rfl
     ·have HV:Hid (valE bs (Ex.mk 3 1 n v xs)=.ok (-ts[0])):=Lib.hid (by
       rw [HTS.out]
       show capA (.ok (- ts.getD 0 0))=_
       rw [HD.out]
       exact capA_id (by have:=HB0.out; omega))
      have wn:IntKind.i64.wrap (-ts[0]) = -ts[0]:=by rw [IntKind.wrap_i64]; have:=HB0.out; omega
      have hl0:(0:Int)<(ts.length:Int):=by omega
      clear HTS HD HVX hxl
      generalize ts[0]=t0 at c0 wn HV
      go_wp2_with fail
      go_ret2
      exact ⟨by rw [HV.out]; rfl,HBW.out⟩
     ·have h01:ts[0]=0∨ts[0]=1:=by
       have h:=HTY.out
       rw [typE_mk] at h
       obtain ⟨a,rfl⟩:=List.length_eq_one_iff.1 hxl
       obtain ⟨t,ht⟩:=HEA.out a (by simp)
       simp only [typL,AnsL.push,ht,List.nil_append] at h
       have h:typ1 bs 3 2 n [t]=.ok tt:=h
       have ht2:t=2:=by
        by_cases e:t=2
        ·exact e
        ·simp [typ1,e] at h
       subst ht2
       exact val_bool HV0.out a (HG.out a (by simp)) _ ht HVX.out
      have HV:Hid (valE bs (Ex.mk 3 2 n v xs)=.ok ((1:Int) - ts[0])):=Lib.hid (by
       rw [HTS.out]
       show capA (.ok (1 - ts.getD 0 0))=_
       rw [HD.out]
       exact capA_id (by omega))
      have wn:IntKind.i64.wrap ((1:Int) - ts[0])=(1:Int) - ts[0]:=by rw [IntKind.wrap_i64]; omega
      have hl0:(0:Int)<(ts.length:Int):=by omega
      clear HTS HD HVX h01 hxl
      generalize ts[0]=t0 at c0 wn HV
      go_wp2_with fail
      go_ret2
      exact ⟨by rw [HV.out]; rfl,HBW.out⟩
    ·have hbin:=HP.out.bin rfl
     simp only [Ex.op] at hbin
     have hl2:ts.length=2:=HLK.out
     obtain ⟨g,gc,hgv,-,hgl⟩:=HOWN.out.form (by have:=HLK.out; simp only [argsN] at this; simp at this; omega)
     subst hgv
     have HC:Hid (∀ (q:Nat) (h:q<ts.length),wr.cell? ⟨g,q,none⟩=some (.int .i64 ts[q])):=Lib.hid (fun q h=>by
      have:=HOWN.out.cells (g:=g) rfl q _ (i64s_at ts q h)
      rw [Addr.add_lit,Nat.zero_add] at this
      exact this)
     have HBDS:=Lib.hid (valL_bd bs xs [] ts (by simp) HVL.out)
     have c0:=HC.out 0 (by omega)
     have c1:=HC.out 1 (by omega)
     have h0:=HBDS.out ts[0] (List.getElem_mem _)
     have h1:=HBDS.out ts[1] (List.getElem_mem _)
     have HOP:=Lib.hid (fun W=>rop_any o ts[0] ts[1] hbin (by unfold Sm; omega) (by unfold Sm; omega) W)
     have HV:Hid (valE bs (Ex.mk 4 o n v xs)=capA (opV o ts[0] ts[1])):=Lib.hid (by
      rw [HTS.out]
      have e0:ts.getD 0 0=ts[0]:=by simp [List.getD,List.getElem?_eq_getElem (show 0<ts.length by omega)]
      have e1:ts.getD 1 0=ts[1]:=by simp [List.getD,List.getElem?_eq_getElem (show 1<ts.length by omega)]
      show capA (opV o (ts.getD 0 0) (ts.getD 1 0))=_
      rw [e0,e1])
     have hl0:(0:Int)<(ts.length:Int):=by omega
     have hl9:(1:Int)<(ts.length:Int):=by omega
     clear HTS h0 h1
     generalize ts[0]=t0 at c0 HOP HV
     generalize ts[1]=t1 at c1 HOP HV
     obtain ⟨rn,rf,hrr⟩:∃ (rn:Int) (rf:Nat),ansV (capA (opV o t0 t1))=.tuple #[.int .i64 rn,.int .i64 (rf:Nat)]:=⟨_,_,rfl⟩
     rw [hrr] at HOP
     have HRR:=Lib.hid hrr
     have HIN:Hid (∀ d os,Calls Tryz.prog 141 #[.int .i64 o,.int .i64 t0,.int .i64 t1] (grow (redrawn wr d) os) (Ret (.tuple #[.int .i64 rn,.int .i64 (rf:Nat)]) (grow (redrawn wr d) os))):=Lib.hid (fun d os=>(HOP.out _).mono fun e W h=>⟨h.1,by rw [h.2]; exact Below.refl _ _⟩)
     unfold Ret at HIN
     have q1:=fun d os=>cell_regrown (w:=wr) x1 d os
     have q6:=fun d os=>cell_regrown (w:=wr) c0 d os
     have q7:=fun d os=>cell_regrown (w:=wr) c1 d os
     clear hrr HOP
     go_upto_region 19 with fail
     refine wp_region_quiet_below (by kernel_rfl) (by kernel_rfl) ?_
     repeat (go_big_quiet_step (first | exact Calls.regrown_of (HIN.out _ _)))
     refine wpQuiet_nil ?_
     rintro _ ⟨pq,rfl⟩
     have hb9:=HBW.out.trans ((below_regrown wr pq.d pq.os).mono HBW.out.size)
     generalize grow (redrawn wr pq.d) pq.os=w9 at hb9 ⊢
     clear q1 q6 q7
     go_wp2_with fail
     go_ret2
     exact ⟨by rw [HV.out,HRR.out]; rfl,hb9⟩
end Go.Proofs.YtedpopbaipnamaaGreatDoor

namespace Go.Proofs.YtedpopbaipnamaaGreatDoor
open Go.RowKit
set_option maxRecDepth 100000 in
set_option maxHeartbeats 3200000 in
theorem rtypeE_any (bs:List Bd) (V:BdOk bs) (Ab:Option Addr) (cb Bb:Nat) (e:Ex) (lo:Nat) (vs:List Value) (w:World) (hL:LiesE w lo vs e) (hlo:lo≤w.heap.size) (hR:RdB w Bb Ab bs) (hBb:Bb≤w.heap.size) :
  Calls Tryz.prog 64 #[.agg vs.toArray,.slice Ab bs.length cb] w (Ret (ansV (typeE bs e)) w):=by
 have HCK:=Lib.hid (fun (W:World) (hb:Below w.heap.size w W)=>rcheckE_any e lo vs W (hL.below' hb hlo) (Nat.le_trans hlo hb.size))
 have HBD:=Lib.hid (fun (W:World) (hb:Below w.heap.size w W)=>(rbind_any bs Ab cb Bb W (Rd.below' hR hb hBb) (Nat.le_trans hBb hb.size)).mono (fun e W' (h:RetC (BdOk bs) W e W')=>(by
  obtain ⟨h1,f,h2,h3⟩:=h
  rw [h3.2 V] at h2
  exact ⟨h2,h1⟩:e=.returned (.int .i64 0)∧Below W.heap.size W W')))
 have HTY:=Lib.hid (fun (hc:chkE e=0) (W:World) (hb:Below w.heap.size w W)=>rtype_any bs Ab cb Bb (by have:=V.len; omega) e lo vs W (good_of e hc).1 (hL.below' hb hlo) (Nat.le_trans hlo hb.size) (Rd.below' hR hb hBb) (Nat.le_trans hBb hb.size))
 obtain ⟨A,cap,rfl,bd,-⟩:=hL.arg
 have hO:=one_new w #[.int .i64 e.kind,.int .i64 e.op,.string e.name,.int .i64 e.val,.slice A e.args.length cap] 45
 by_cases hc:chkE e=0
 ·have HV:Hid (typeE bs e=typE bs e):=Lib.hid (by unfold typeE; rw [if_pos hc])
  replace HTY:=Lib.hid (HTY.out hc)
  rw [hc] at HCK
  obtain ⟨rn,rf,hrr⟩:∃ (rn:Int) (rf:Nat),ansV (typE bs e)=.tuple #[.int .i64 rn,.int .i64 (rf:Nat)]:=⟨_,_,rfl⟩
  rw [hrr] at HTY
  have HRR:=Lib.hid hrr
  unfold exC Ret at HCK HTY
  unfold exC Ret
  clear hL hR bd hc hrr V
  go_enter Tryz.func64,Tryz.ntmps64
  go_upto_region 1 with fail
  generalize w.alloc _=w1 at hO ⊢
  obtain ⟨x0,x1,x2,x3,x4⟩:=bx5 hO.fst
  go_wp2_with fail
  refine (HCK.out _ hO.below).mono ?_
  rintro e2 w2 ⟨rfl,hb2⟩
  clear x0 x1 x2 x3 x4
  replace hO:=hO.next hb2
  clear hb2
  go_wp2_with fail
  refine (HBD.out _ hO.below).mono ?_
  rintro e3 w3 ⟨rfl,hb3⟩
  replace hO:=hO.next hb3
  clear hb3
  obtain ⟨x0,x1,x2,x3,x4⟩:=bx5 hO.fst
  go_wp2_with fail
  refine (HTY.out _ hO.below).mono ?_
  rintro e4 w4 ⟨rfl,hb4⟩
  have HB:=Lib.hid (hO.below.trans (hb4.mono hO.below.size))
  clear x0 x1 x2 x3 x4 hO hb4
  go_wp2_with fail
  go_ret2
  exact ⟨by rw [HV.out,HRR.out]; rfl,HB.out⟩
 ·have HV:Hid (typeE bs e=.er (chkE e)):=Lib.hid (by unfold typeE; rw [if_neg hc])
  generalize chkE e=f at HCK HV hc
  have e1:((f:Int) != 0)=true:=by simpa using hc
  have e2:(f != 0)=true:=by simpa using hc
  unfold exC Ret at HCK
  unfold exC ansV Ret
  clear hL hR bd hc HTY HBD V
  go_enter Tryz.func64,Tryz.ntmps64
  go_upto_region 1 with fail
  generalize w.alloc _=w1 at hO ⊢
  obtain ⟨x0,x1,x2,x3,x4⟩:=bx5 hO.fst
  go_wp2_with fail
  refine (HCK.out _ hO.below).mono ?_
  rintro e2 w2 ⟨rfl,hb2⟩
  have HB:=Lib.hid (hO.below.trans (hb2.mono hO.below.size))
  clear x0 x1 x2 x3 x4 hO hb2
  go_wp2_with fail
  go_ret2
  exact ⟨by rw [HV.out]; rfl,HB.out⟩
set_option maxRecDepth 100000 in
set_option maxHeartbeats 3200000 in
theorem revalE_any (bs:List Bd) (V:BdOk bs) (Ab:Option Addr) (cb Bb:Nat) (e:Ex) (lo:Nat) (vs:List Value) (w:World) (hL:LiesE w lo vs e) (hlo:lo≤w.heap.size) (hR:RdB w Bb Ab bs) (hBb:Bb≤w.heap.size) :
  Calls Tryz.prog 66 #[.agg vs.toArray,.slice Ab bs.length cb] w (Ret (ansV (evalE bs e)) w):=by
 have HTY:=Lib.hid (fun (W:World) (hb:Below w.heap.size w W)=>rtypeE_any bs V Ab cb Bb e lo vs W (hL.below' hb hlo) (Nat.le_trans hlo hb.size) (Rd.below' hR hb hBb) (Nat.le_trans hBb hb.size))
 have HVL:=Lib.hid (fun (t:Int) (ht:typeE bs e=.ok t) (W:World) (hb:Below w.heap.size w W)=>reval_any bs V Ab cb Bb (by have:=V.len; omega) e lo vs W t (good_of e (typeE_chk ht)).1 (by have h:=ht; unfold typeE at h; rwa [if_pos (typeE_chk ht)] at h) (hL.below' hb hlo) (Nat.le_trans hlo hb.size) (Rd.below' hR hb hBb) (Nat.le_trans hBb hb.size))
 obtain ⟨A,cap,rfl,bd,-⟩:=hL.arg
 have hO:=one_new w #[.int .i64 e.kind,.int .i64 e.op,.string e.name,.int .i64 e.val,.slice A e.args.length cap] 45
 cases ht:typeE bs e with
 | er f=>
  have hf:=typeE_ne _ _ _ ht
  have HV:Hid (evalE bs e=.er f):=Lib.hid (by unfold evalE; rw [ht])
  have e1:((f:Int) != 0)=true:=by simpa using hf
  have e2:(f != 0)=true:=by simpa using hf
  rw [ht] at HTY
  unfold exC ansV Ret at HTY
  simp only [Ans.n,Ans.f] at HTY
  unfold exC ansV Ret
  clear hL hR bd ht hf HVL V
  go_enter Tryz.func66,Tryz.ntmps66
  go_upto_region 1 with fail
  generalize w.alloc _=w1 at hO ⊢
  obtain ⟨x0,x1,x2,x3,x4⟩:=bx5 hO.fst
  go_wp2_with fail
  refine (HTY.out _ hO.below).mono ?_
  rintro e2 w2 ⟨rfl,hb2⟩
  have HB:=Lib.hid (hO.below.trans (hb2.mono hO.below.size))
  clear x0 x1 x2 x3 x4 hO hb2
  go_wp2_with fail
  go_ret2
  exact ⟨by rw [HV.out]; rfl,HB.out⟩
 | ok t=>
  have HV:Hid (evalE bs e=valE bs e):=Lib.hid (by unfold evalE; rw [ht])
  replace HVL:=Lib.hid (HVL.out t ht)
  rw [ht] at HTY
  obtain ⟨rn,rf,hrr⟩:∃ (rn:Int) (rf:Nat),ansV (valE bs e)=.tuple #[.int .i64 rn,.int .i64 (rf:Nat)]:=⟨_,_,rfl⟩
  rw [hrr] at HVL
  have HRR:=Lib.hid hrr
  unfold exC ansV Ret at HTY
  simp only [Ans.n,Ans.f] at HTY
  unfold exC Ret at HVL
  unfold exC Ret
  clear hL hR bd ht hrr V
  go_enter Tryz.func66,Tryz.ntmps66
  go_upto_region 1 with fail
  generalize w.alloc _=w1 at hO ⊢
  obtain ⟨x0,x1,x2,x3,x4⟩:=bx5 hO.fst
  go_wp2_with fail
  refine (HTY.out _ hO.below).mono ?_
  rintro e2 w2 ⟨rfl,hb2⟩
  clear x0 x1 x2 x3 x4
  replace hO:=hO.next hb2
  clear hb2
  obtain ⟨x0,x1,x2,x3,x4⟩:=bx5 hO.fst
  go_wp2_with fail
  refine (HVL.out _ hO.below).mono ?_
  rintro e4 w4 ⟨rfl,hb4⟩
  have HB:=Lib.hid (hO.below.trans (hb4.mono hO.below.size))
  clear x0 x1 x2 x3 x4 hO hb4
  go_wp2_with fail
  go_ret2
  exact ⟨by rw [HV.out,HRR.out]; rfl,HB.out⟩
end Go.Proofs.YtedpopbaipnamaaGreatDoor

namespace Go.Proofs.YtedpopbaipnamaaGreatDoor
open Go.RowKit
theorem aw_kd:awB 0 0 0=kdB:=by rfl
theorem rnames_any (w:World):Calls Tryz.prog 32 #[] w (fun e W=>Below w.heap.size w W∧∃ K,e=.returned (.slice (some ⟨K,0,none⟩) kdB.length 11)∧w.heap.size≤K∧K<W.heap.size∧RdB W (K+1) (some ⟨K,0,none⟩) kdB):=by
 refine (names_any w).mono fun e W h=>?_
 obtain ⟨hb,K,rfl,hK,hrow⟩:=h
 rw [aw_kd] at hrow
 refine ⟨hb,K,rfl,hK,(Array.getElem?_eq_some_iff.1 hrow).1,?_,.inr ⟨K,0,rfl,by omega,fun j u hu=>?_⟩⟩
 ·exact flat_len (f:=Bd.cells) (s:=3) (fun _=>rfl) kdB
 ·rw [Nat.zero_add]
  exact cell_of_cells hrow hu
set_option maxRecDepth 100000 in
set_option maxHeartbeats 3200000 in
theorem rckx_any (e:Ex) (t:Int) (lo:Nat) (vs:List Value) (w:World) (hL:LiesE w lo vs e) (hlo:lo≤w.heap.size) :
  Calls Tryz.prog 44 #[.agg vs.toArray,.int .i64 t] w (Ret (.int .i64 (tyE e t:Nat)) w):=by
 have HTY:=Lib.hid (fun (W:World) (hb:Below w.heap.size w W) (K:Nat) (hK:K<W.heap.size) (hr:RdB W (K+1) (some ⟨K,0,none⟩) kdB)=>rtypeE_any kdB bdok_kd (some ⟨K,0,none⟩) 11 (K+1) e lo vs W (hL.below' hb hlo) (Nat.le_trans hlo hb.size) hr hK)
 obtain ⟨A,cap,rfl,bd,-⟩:=hL.arg
 have hO:=one_new w #[.int .i64 e.kind,.int .i64 e.op,.string e.name,.int .i64 e.val,.slice A e.args.length cap] 45
 have HV:Hid (tyE e t=match typeE kdB e with | .er f=>f | .ok n=>if n=t then 0 else 15):=Lib.hid rfl
 have HNE:=Lib.hid (fun f h=>typeE_ne kdB e f h)
 generalize tyE e t=R at HV ⊢
 unfold exC ansV Ret at HTY
 unfold exC Ret
 clear hL bd
 have HO:=Lib.hid (fun (W:World) (hW:Below (w.alloc (.cells #[.int .i64 e.kind,.int .i64 e.op,.string e.name,.int .i64 e.val,.slice A e.args.length cap] 45)).heap.size (w.alloc (.cells #[.int .i64 e.kind,.int .i64 e.op,.string e.name,.int .i64 e.val,.slice A e.args.length cap] 45)) W)=>hO.next hW)
 go_enter Tryz.func44,Tryz.ntmps44
 go_upto_region 1 with fail
 generalize w.alloc _=w1 at hO HO ⊢
 have HBW:=Lib.hid hO.below
 have HC:Hid (∀ W,Below w1.heap.size w1 W→W.cell? ⟨w.heap.size,0,none⟩=some (.int .i64 e.kind)∧W.cell? ⟨w.heap.size,1,none⟩=some (.int .i64 e.op)∧W.cell? ⟨w.heap.size,2,none⟩=some (.string e.name)∧W.cell? ⟨w.heap.size,3,none⟩=some (.int .i64 e.val)∧W.cell? ⟨w.heap.size,4,none⟩=some (.slice A e.args.length cap)):=Lib.hid (fun W hW=>bx5 (HO.out W hW).fst)
 clear hO HO
 go_cut [5,6] (fun a b wx=>a=.int .i64 (typeE kdB e).n∧b=.int .i64 ((typeE kdB e).f:Nat)∧Below w1.heap.size w1 wx)
 case first=>
  have hB:Below w1.heap.size w1 w1.drew:=below_drews _ _ 1
  go_region_held3 (fun W=>W.cell? ⟨w.heap.size,0,none⟩=some (.int .i64 e.kind)∧W.cell? ⟨w.heap.size,1,none⟩=some (.int .i64 e.op)∧W.cell? ⟨w.heap.size,2,none⟩=some (.string e.name)∧W.cell? ⟨w.heap.size,3,none⟩=some (.int .i64 e.val)∧W.cell? ⟨w.heap.size,4,none⟩=some (.slice A e.args.length cap))
   (first | exact HC.out _ hB | exact HC.out _ (below_drews _ _ 1))
   (first
   | (go_at_call 32; refine (rnames_any _).mono ?_; rintro e5 W ⟨hb5,K,rfl,-,hK,hr⟩; replace hB:=hB.trans (hb5.mono hB.size); have HT:=Lib.hid (HTY.out W (HBW.out.trans (hB.mono HBW.out.size)) K hK hr); clear hb5 hr)
   | (go_at_call 64; refine HT.out.mono ?_; rintro e6 W6 ⟨rfl,hb6⟩; replace hB:=hB.trans (hb6.mono hB.size)))
  go_wp2_with fail
  go_meet
  exact ⟨rfl,rfl,hB⟩
 case rest=>
  obtain ⟨rfl,rfl,hbx⟩:=hcut
  have HB:=Lib.hid (HBW.out.trans (hbx.mono HBW.out.size))
  clear HC HTY hbx
  cases ht:typeE kdB e with
  | er f=>
   have hf:=HNE.out f ht
   have HV2:Hid (R=f):=Lib.hid (by rw [HV.out,ht])
   simp only [Ans.n,Ans.f]
   have e1:((f:Int) != 0)=true:=by simpa using hf
   have e2:(f != 0)=true:=by simpa using hf
   clear ht hf HNE HV
   go_wp2_with fail
   go_ret
   exact ⟨by rw [HV2.out]; rfl,HB.out⟩
  | ok n=>
   simp only [Ans.n,Ans.f]
   by_cases hn:n=t
   ·have HV2:Hid (R=0):=Lib.hid (by rw [HV.out,ht]; simp only; rw [if_pos hn])
    have e1:(n != t)=false:=by simpa using hn
    have e3:(n == t)=true:=by simpa using hn
    clear ht HNE HV
    subst hn
    go_wp2_with fail
    go_ret
    exact ⟨by rw [HV2.out]; rfl,HB.out⟩
   ·have HV2:Hid (R=15):=Lib.hid (by rw [HV.out,ht]; simp only; rw [if_neg hn])
    have e1:(n != t)=true:=by simpa using hn
    have e3:(n == t)=false:=by simpa using hn
    clear ht HNE HV
    go_wp2_with fail
    go_ret
    exact ⟨by rw [HV2.out]; rfl,HB.out⟩
end Go.Proofs.YtedpopbaipnamaaGreatDoor

namespace Go.Proofs.YtedpopbaipnamaaGreatDoor
open Go.RowKit
theorem chkR_cut {rs:List Rl} {j f:Nat} (h:j<rs.length) (h1:chkR (rs.take j)=0) (h2:(tyE rs[j].cond 2=f∨(tyE rs[j].cond 2=0∧tyE rs[j].key 1=f))) (hf:f≠0):chkR rs=f:=by
 have e:rs=rs.take j++(rs[j]::rs.drop (j+1)):=by rw [← List.drop_eq_getElem_cons h,List.take_append_drop]
 rw [e,chkR_append,if_pos h1]
 unfold chkR
 rcases h2 with h2 | ⟨h2,h3⟩
 ·rw [if_neg (by rw [h2]; exact hf)]; exact h2
 ·rw [if_pos h2,if_neg (by rw [h3]; exact hf)]; exact h3
theorem chkR_next {rs:List Rl} {j:Nat} (h:j<rs.length) (h1:chkR (rs.take j)=0) (h2:tyE rs[j].cond 2=0) (h3:tyE rs[j].key 1=0):chkR (rs.take (j+1))=0:=by
 rw [List.take_add_one,List.getElem?_eq_getElem h,chkR_append,if_pos h1]
 simp [chkR,h2,h3]
set_option maxRecDepth 100000 in
set_option maxHeartbeats 6400000 in
theorem rpck_any (A:Option Addr) (c B:Nat) (rs:List Rl) (w:World) (hP:LiesP w B A c rs) (hB:B≤w.heap.size) :
  Calls Tryz.prog 24 #[.agg #[.slice A rs.length c]] w (Ret (.int .i64 (chkP rs:Nat)) w):=by
 have hl:=hP.len
 have HP:=Lib.hid hP
 have hO:=one_new w #[.slice A rs.length c] 24
 by_cases h16:16<rs.length
 ·have HV:Hid (chkP rs=4):=Lib.hid (by unfold chkP; rw [if_pos h16])
  have e1:decide ((rs.length:Int) > 16)=true:=decide_eq_true (by omega)
  have e2:decide (16<(rs.length:Int))=true:=decide_eq_true (by omega)
  have e3:decide (16<rs.length)=true:=decide_eq_true h16
  generalize chkP rs=R at HV ⊢
  unfold Ret
  clear hP
  go_enter Tryz.func24,Tryz.ntmps24
  go_upto_region 1 with fail
  generalize w.alloc _=w1 at hO ⊢
  have x0:=hO.fst 0 _ rfl
  have HB:=Lib.hid hO.below
  clear hO
  go_wp2_with fail
  go_ret
  exact ⟨by rw [HV.out]; rfl,HB.out⟩
 have HV:Hid (chkP rs=chkR rs):=Lib.hid (by unfold chkP; rw [if_neg h16])
 have e1:decide ((rs.length:Int) > 16)=false:=decide_eq_false (by omega)
 have e2:decide (16<(rs.length:Int))=false:=decide_eq_false (by omega)
 have e3:decide (16<rs.length)=false:=decide_eq_false h16
 generalize chkP rs=R at HV ⊢
 unfold Ret
 clear hP
 go_enter Tryz.func24,Tryz.ntmps24
 go_upto_region 1 with fail
 generalize w.alloc _=w1 at hO ⊢
 have x0:=hO.fst 0 _ rfl
 have HO:=Lib.hid hO
 go_wp2_with fail
 clear e1 e2 e3 x0
 go_loopw [2,3,4,5] (fun r i _ _ wr=>r=.int .i64 0∧∃ j:Nat,i=.int .i64 (j:Nat)∧j≤rs.length∧Hid (chkR (rs.take j)=0)∧Hid (Below w1.heap.size w1 wr)) (fun _ i _ _ _=>rs.length - (intOf i).toNat)
 case atStart=>exact ⟨rfl,0,rfl,Nat.zero_le _,Lib.hid rfl,Lib.hid (Below.refl _ _)⟩
 case round=>
  obtain ⟨rfl,j,rfl,hj,HZ,HB⟩:=hrel
  have hj0:(0:Int)≤(j:Int):=by omega
  have hOr:=HO.out.next HB.out
  have x0:=hOr.fst 0 _ rfl
  have HBW:=Lib.hid hOr.below
  clear hOr hO
  by_cases hlt:j<rs.length
  ·have hd1:decide ((j:Int)<(rs.length:Int))=true:=decide_eq_true (by omega)
   have hd2:decide (j<rs.length)=true:=decide_eq_true hlt
   have hjl:(j:Int)<(rs.length:Int):=by omega
   have hwr1:IntKind.i64.wrap ((j:Int)+1)=(j:Int)+1:=by rw [IntKind.wrap_i64]; omega
   obtain ⟨b,off,k1,o1,n1,v1,A1,m1,c1,k2,o2,n2,v2,A2,m2,c2,rfl,hb,hL1,hL2,y0,y1,y2,y3,y4,y5,y6,y7,y8,y9⟩:=HP.out.at_ j hlt
   have HC:Hid (∀ W,Below w.heap.size w W→(W.cell? ⟨b,off+j * 10,none⟩=some (.int .i64 k1)∧W.cell? ⟨b,off+j * 10+1,none⟩=some (.int .i64 o1)∧W.cell? ⟨b,off+j * 10+2,none⟩=some (.string n1)∧W.cell? ⟨b,off+j * 10+3,none⟩=some (.int .i64 v1)∧W.cell? ⟨b,off+j * 10+4,none⟩=some (.slice A1 m1 c1)) ∧
     (W.cell? ⟨b,off+j * 10+5,none⟩=some (.int .i64 k2)∧W.cell? ⟨b,off+j * 10+6,none⟩=some (.int .i64 o2)∧W.cell? ⟨b,off+j * 10+7,none⟩=some (.string n2)∧W.cell? ⟨b,off+j * 10+8,none⟩=some (.int .i64 v2)∧W.cell? ⟨b,off+j * 10+9,none⟩=some (.slice A2 m2 c2))):=Lib.hid (fun W hW=>
    ⟨⟨(hW.cell (p:=⟨b,off+j * 10,none⟩) (by show b<w.heap.size; omega)).trans y0,(hW.cell (p:=⟨b,off+j * 10+1,none⟩) (by show b<w.heap.size; omega)).trans y1,(hW.cell (p:=⟨b,off+j * 10+2,none⟩) (by show b<w.heap.size; omega)).trans y2,(hW.cell (p:=⟨b,off+j * 10+3,none⟩) (by show b<w.heap.size; omega)).trans y3,(hW.cell (p:=⟨b,off+j * 10+4,none⟩) (by show b<w.heap.size; omega)).trans y4⟩,
     (hW.cell (p:=⟨b,off+j * 10+5,none⟩) (by show b<w.heap.size; omega)).trans y5,(hW.cell (p:=⟨b,off+j * 10+6,none⟩) (by show b<w.heap.size; omega)).trans y6,(hW.cell (p:=⟨b,off+j * 10+7,none⟩) (by show b<w.heap.size; omega)).trans y7,(hW.cell (p:=⟨b,off+j * 10+8,none⟩) (by show b<w.heap.size; omega)).trans y8,(hW.cell (p:=⟨b,off+j * 10+9,none⟩) (by show b<w.heap.size; omega)).trans y9⟩)
   have HK1:=Lib.hid (fun (W:World) (hW:Below w.heap.size w W)=>rckx_any rs[j].cond 2 B _ W (hL1.below' hW hB) (Nat.le_trans hB hW.size))
   have HK2:=Lib.hid (fun (W:World) (hW:Below w.heap.size w W)=>rckx_any rs[j].key 1 B _ W (hL2.below' hW hB) (Nat.le_trans hB hW.size))
   have HCUT:=Lib.hid (fun f h2 hf=>chkR_cut (f:=f) hlt HZ.out h2 hf)
   have HNX:=Lib.hid (fun h2 h3=>chkR_next hlt HZ.out h2 h3)
   unfold exC Ret at HK1 HK2
   generalize tyE rs[j].cond 2=f1 at HK1 HCUT HNX
   generalize tyE rs[j].key 1=f2 at HK2 HCUT HNX
   obtain ⟨⟨z0,z1,z2,z3,z4⟩,-⟩:=HC.out wr HBW.out
   clear y0 y1 y2 y3 y4 y5 y6 y7 y8 y9 hL1 hL2 HZ
   go_wp2_with fail
   refine (HK1.out _ HBW.out).mono ?_
   rintro e w5 ⟨rfl,hb5⟩
   clear z0 z1 z2 z3 z4 x0
   have HB5:=Lib.hid (HB.out.trans (hb5.mono HB.out.size))
   have HBW5:=Lib.hid (HBW.out.trans (hb5.mono HBW.out.size))
   clear hb5
   by_cases hf1:f1=0
   rotate_left
   ·have HQ:=Lib.hid (HCUT.out f1 (.inl rfl) hf1)
    have e1:((f1:Int) != 0)=true:=by simpa using hf1
    have e2:(f1 != 0)=true:=by simpa using hf1
    clear hf1 HNX HCUT
    go_wp2_with fail
    go_ret
    exact ⟨by rw [HV.out,HQ.out]; rfl,HBW5.out⟩
   subst hf1
   have x0:=(HO.out.next HB5.out).fst 0 _ rfl
   obtain ⟨-,z5,z6,z7,z8,z9⟩:=HC.out w5 HBW5.out
   go_wp2_with fail
   refine (HK2.out _ HBW5.out).mono ?_
   rintro e w6 ⟨rfl,hb6⟩
   clear z5 z6 z7 z8 z9 x0
   have HB6:=Lib.hid (HB5.out.trans (hb6.mono HB5.out.size))
   have HBW6:=Lib.hid (HBW5.out.trans (hb6.mono HBW5.out.size))
   clear hb6
   by_cases hf2:f2=0
   rotate_left
   ·have HQ:=Lib.hid (HCUT.out f2 (.inr ⟨by first | rfl | exact True.intro,rfl⟩) hf2)
    have e1:((f2:Int) != 0)=true:=by simpa using hf2
    have e2:(f2 != 0)=true:=by simpa using hf2
    clear hf2 HNX HCUT
    go_wp2_with fail
    go_ret
    exact ⟨by rw [HV.out,HQ.out]; rfl,HBW6.out⟩
   subst hf2
   have HZ2:=Lib.hid (HNX.out (by first | rfl | exact True.intro) (by first | rfl | exact True.intro))
   clear HNX HCUT
   go_wp2_with fail
   exact ⟨⟨rfl,j+1,by go_num,by omega,HZ2,HB6⟩,by simp [intOf]; omega⟩
  ·have hd1:decide ((j:Int)<(rs.length:Int))=false:=decide_eq_false (by omega)
   have hd2:decide (j<rs.length)=false:=decide_eq_false hlt
   have HQ:Hid (chkR rs=0):=Lib.hid (by have:=HZ.out; rwa [List.take_of_length_le (by omega)] at this)
   go_wp2_with fail
   go_ret
   exact ⟨by rw [HV.out,HQ.out]; rfl,HBW.out⟩
end Go.Proofs.YtedpopbaipnamaaGreatDoor
