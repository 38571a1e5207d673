/- nurseryref09.typeOf, walked. Conditions: the expression and the bindings lie in memory, all parts are valid. -/
import Derived.Test.YtmbffkemfepekaaGreatDoorPtRf5
import Derived.Test.YtmbffkemfepekaaGreatDoorPtTyp
import Derived.Test.YtmbffkemfepekaaGreatDoorPtCmp
import Derived.Test.YtmbffkemfepekaaGreatDoorPtBdK
import Derived.Test.YtmbffkemfepekaaGreatDoorPtOpp
import Derived.Laws.NewBlocks
import Derived.Test.YtmbffkemfepekaaGreatDoorPtRf1
import Derived.Test.YtmbffkemfepekaaGreatDoorPtAwM
import Derived.Deep.RegionHeld3
namespace Go.Proofs.YtmbffkemfepekaaGreatDoor
open Go.RowKit
set_option maxRecDepth 100000 in
set_option maxHeartbeats 12800000 in
theorem rtype_any (bs:List Bd) (Ab:Option Addr) (cb Bb:Nat) (hbl:bs.length≤140737488355328):∀ (e:Ex) (lo:Nat) (vs:List Value) (w:World),Good e→LiesE w lo vs e→lo≤w.heap.size→RdB w Bb Ab bs→Bb≤w.heap.size →
  Calls Tryz.prog 107 #[.agg vs.toArray,.slice Ab bs.length cb] w (Ret (ansV (typE bs e)) w):=by
 intro e
 induction e using Ex.ind with
 | h k o n v xs ih=>
  intro lo vs w hG hL hlo hR hBb
  obtain ⟨A,cap,rfl,bd,harg⟩:=hL.arg
  obtain ⟨i0,hi,hz0,hz1,hz2⟩:=info_parts intInfo
  have hP:=part_of hG.self
  have hlen:xs.length≤2:=by
   have h1:=hP.len
   simp only [Ex.args,Ex.kind] at h1
   rw [h1]; unfold argsN; split
   ·omega
   ·split <;> omega
  have hO:=two_new w #[.int .i64 k,.int .i64 o,.string n,.int .i64 v,.slice A xs.length cap] #[] 38 3
  have hz:((w.alloc (.cells #[.int .i64 k,.int .i64 o,.string n,.int .i64 v,.slice A xs.length cap] 38)).alloc (.cells #[] 3)).heap.size=w.heap.size+2:=by simp
  have hz':(w.alloc (.cells #[.int .i64 k,.int .i64 o,.string n,.int .i64 v,.slice A xs.length cap] 38)).heap.size=w.heap.size+1:=by simp
  have hown0:((w.alloc (.cells #[.int .i64 k,.int .i64 o,.string n,.int .i64 v,.slice A xs.length cap] 38)).alloc (.cells #[] 3)).ownsRow (w.heap.size+1) 3 1 (.slice (some ⟨w.heap.size+1,0,none⟩) 0 0) 0 []:=by
   have:=heap_alloc_new (w.alloc (.cells #[.int .i64 k,.int .i64 o,.string n,.int .i64 v,.slice A xs.length cap] 38)) (.cells #[] 3)
   rw [hz'] at this
   exact ⟨rfl,.inr ⟨w.heap.size+1,0,#[],rfl,Nat.le_refl _,this,Nat.le_refl _,Nat.zero_le _,rfl,rfl⟩⟩
  have HARG:=Lib.hid harg
  have HIH:=Lib.hid (fun a ha=>ih a ha)
  have HG:=Lib.hid (fun a (ha:a∈xs)=>hG.arg ha)
  have HR:=Lib.hid hR
  have HP:=Lib.hid hP
  simp only [Ex.kind,Ex.op,Ex.name,Ex.val,Ex.args] at HARG HP ⊢
  clear harg ih hL bd hG hR hP
  unfold exC Ret
  go_enter Tryz.func107,Tryz.ntmps107
  go_upto_region 2 with fail
  generalize World.alloc _ _=w1 at hO hz hown0 ⊢
  have HOWN0:=Lib.hid hown0
  have HLEN:=Lib.hid hlen
  clear hown0 hz'
  go_wp2_with fail
  go_loopw [4,5,6,7,8,9] (fun r4 r5 tv i _ _ wr=>r4=.int .i64 0∧r5=.int .i64 0∧∃ (j:Nat) (ts:List Int),i=.int .i64 (j:Nat)∧j≤xs.length∧Hid (typL bs (.ok []) (xs.take j)=.ok ts)∧wr.ownsRow (w.heap.size+1) 3 1 tv ts.length (i64s ts)∧Hid (Below (w.heap.size+1) w1 wr)) (fun _ _ _ i _ _ _=>xs.length - (intOf i).toNat)
  case atStart=>exact ⟨rfl,rfl,0,[],rfl,Nat.zero_le _,Lib.hid (by simp [typL]),HOWN0.out,Lib.hid (Below.refl _ _)⟩
  case round=>
   obtain ⟨rfl,rfl,j,ts,rfl,hj,hts,hown,HBB⟩:=hrel
   have hj0:(0:Int)≤(j:Int):=by omega
   have hwr1:IntKind.i64.wrap ((j:Int)+1)=(j:Int)+1:=by rw [IntKind.wrap_i64]; omega
   have hbw:Below w.heap.size w wr:=hO.below.trans (HBB.out.mono (Nat.le_succ _))
   have hz3:w.heap.size+1≤wr.heap.size:=by have:=HBB.out.size; omega
   have htl:ts.length=j:=by
    have:=typL_len bs _ _ _ hts.out
    simp [List.length_take] at this; omega
   have hBx:=hO.fst.below HBB.out (by omega)
   obtain ⟨x0,x1,x2,x3,x4⟩:=bx5 hBx
   clear hBx
   by_cases hlt:j<xs.length
   ·have hd1:decide ((j:Int)<(xs.length:Int))=true:=decide_eq_true (by omega)
    have hd3:decide (j<xs.length)=true:=decide_eq_true hlt
    have hjl:(j:Int)<(xs.length:Int):=by omega
    obtain ⟨b1,off,k1,o1,n1,v1,A1,m1,cap1,rfl,hb1,hL1,y0,y1,y2,y3,y4⟩:=HARG.out j hlt
    have z0:=(hbw.cell (p:=⟨b1,off+j * 5,none⟩) (by show b1<w.heap.size; omega)).trans y0
    have z1:=(hbw.cell (p:=⟨b1,off+j * 5+1,none⟩) (by show b1<w.heap.size; omega)).trans y1
    have z2:=(hbw.cell (p:=⟨b1,off+j * 5+2,none⟩) (by show b1<w.heap.size; omega)).trans y2
    have z3:=(hbw.cell (p:=⟨b1,off+j * 5+3,none⟩) (by show b1<w.heap.size; omega)).trans y3
    have z4:=(hbw.cell (p:=⟨b1,off+j * 5+4,none⟩) (by show b1<w.heap.size; omega)).trans y4
    have hs:=HIH.out xs[j] (List.getElem_mem _) lo (exC k1 o1 n1 v1 A1 m1 cap1) wr (HG.out _ (List.getElem_mem _)) (hL1.below' hbw hlo) (by omega) (Rd.below' HR.out hbw hBb) (by omega)
    unfold exC ansV at hs
    have HS:=Lib.hid hs
    have HTK:=Lib.hid (typL_take bs xs j hlt)
    have HER:Hid (∀ f,typE bs xs[j]=.er f→typE bs (Ex.mk k o n v xs)=.er f∧f≠0):=Lib.hid (fun f hf=>⟨by rw [typE_mk,typL_split bs xs j f hlt ts hts.out hf],typE_ne bs _ f hf⟩)
    have HBW:=Lib.hid hbw
    have HO:=Lib.hid hO
    have HOWN:=Lib.hid hown
    clear hs hL1 hbw y0 y1 y2 y3 y4 hO hown
    cases hans:typE bs xs[j] with
    | er f=>
     have HE:=Lib.hid (HER.out f hans)
     have hf0:=HE.out.2
     have e1:((f:Int) != 0)=true:=by simpa using hf0
     have e2:(f != 0)=true:=by simpa using hf0
     rw [hans] at HS
     simp only [Ans.n,Ans.f] at HS
     clear hf0 hans HER
     go_wp2_with fail
     refine HS.out.mono ?_
     rintro e w5 ⟨rfl,hb5⟩
     clear x0 x1 x2 x3 x4 z0 z1 z2 z3 z4 HS
     go_wp2_with fail
     go_ret2
     exact ⟨by rw [HE.out.1]; rfl,HBW.out.trans (hb5.mono HBW.out.size)⟩
    | ok t=>
     rw [hans] at HS
     simp only [Ans.n,Ans.f] at HS
     have HT2:Hid (typL bs (.ok []) (xs.take (j+1))=.ok (ts++[t])):=Lib.hid (by rw [HTK.out,hts.out,hans]; rfl)
     clear hans HER HTK hts
     go_wp2_with fail
     refine HS.out.mono ?_
     rintro e w5 ⟨rfl,hb5⟩
     have hown5:=own_next HOWN.out hb5
     have hbb5:Below (w.heap.size+1) w1 w5:=HBB.out.trans (hb5.mono (by omega))
     have hz5:w.heap.size+1≤w5.heap.size:=by have:=hb5.size; omega
     have hmx:ts.length+1≤maxLen:=by unfold maxLen; omega
     have hby:(ts.length+1) * 8≤140737488355328:=by omega
     have hbs:w.heap.size+1≤(w5.alloc (.cells #[.int .i64 t] 3)).heap.size:=by simp; omega
     have hbl6:=hbb5.trans ((below_alloc w5 (.cells #[.int .i64 t] 3)).mono hz5)
     clear x0 x1 x2 x3 x4 z0 z1 z2 z3 z4 HS hb5
     go_wp2_with (at_builtin; refine wpList_append_own _ rfl (.tmp 36) (.tmp 38) _ rfl (w.heap.size+1) 3 i0 (.int .i64 0) 1 8 Tryz.underlying41 hi hz0 hz1 hz2 rfl (by omega) _ _ _ rfl (World.ownsRow.alloc hown5 _) ⟨w5.heap.size,0,none⟩ 1 1 [.int .i64 t] rfl rfl (cell_one _ _ _) (by simp [Value.oneCell']) hmx hby hbs ?_; intro v2 w6 hown6 hg6 _)
     exact ⟨⟨rfl,rfl,j+1,ts++[t],by go_num,by omega,HT2,by rw [List.length_append,i64s_append]; exact hown6,Lib.hid (hbl6.grown hg6 hbs (fun g e=>(World.ownsRow.lt hown5 g e).1))⟩,by simp [intOf]; omega⟩
   ·have hd1:decide ((j:Int)<(xs.length:Int))=false:=decide_eq_false (by omega)
    have hd3:decide (j<xs.length)=false:=decide_eq_false hlt
    have HTS:Hid (typE bs (Ex.mk k o n v xs)=typ1 bs k o n ts):=Lib.hid (by
     have:=hts.out
     rw [List.take_of_length_le (by omega)] at this
     rw [typE_mk,this])
    have hlk:ts.length=argsN k:=by have h1:=HP.out.len; simp only [Ex.args,Ex.kind] at h1; omega
    have HLK:=Lib.hid hlk
    have HO:=Lib.hid hO
    have HBW:=Lib.hid hbw
    have HOWN:=Lib.hid hown
    have hk1:=HP.out.lo
    have hk4:=HP.out.hi
    simp only [Ex.kind] at hk1 hk4
    have hkk:k=1∨k=2∨k=3∨k=4:=by omega
    clear hts htl hlk hO hbw hj hlt hown hk1 hk4
    rcases hkk with rfl | rfl | rfl | rfl
    ·have HV:Hid (typE bs (Ex.mk 1 o n v xs)=.ok 1):=Lib.hid (by rw [HTS.out]; rfl)
     clear HTS
     go_wp2_with fail
     go_ret2
     exact ⟨by rw [HV.out]; rfl,HBW.out⟩
    ·have HFN:=Lib.hid (rfind_any Ab cb Bb bs n wr (Rd.below' HR.out HBW.out hBb) (Nat.le_trans hBb HBW.out.size) hbl)
     have HT1:Hid (typE bs (Ex.mk 2 o n v xs)=match findB bs n with | none=>.er 7 | some b=>.ok b.ty):=Lib.hid (by rw [HTS.out]; rfl)
     clear HTS
     generalize findB bs n=fb at HFN HT1
     cases fb with
     | none=>
      unfold fndV Ret at HFN
      dsimp only at HFN HT1
      go_wp2_with (go_at_call 150; refine HFN.out.mono ?_; rintro e w5 ⟨rfl,hb5⟩)
      go_ret2
      exact ⟨by rw [HT1.out]; rfl,(HBW.out.trans (hb5.mono HBW.out.size)).alloc (Nat.le_trans HBW.out.size hb5.size) _⟩
     | some b=>
      unfold fndV Ret at HFN
      dsimp only at HFN HT1
      go_wp2_with (go_at_call 150; refine HFN.out.mono ?_; rintro e w5 ⟨rfl,hb5⟩)
      go_ret2
      exact ⟨by rw [HT1.out]; rfl,(HBW.out.trans (hb5.mono HBW.out.size)).alloc (Nat.le_trans HBW.out.size hb5.size) _⟩
    ·have hun:=HP.out.un rfl
     simp only [Ex.op] at hun
     have hl1:ts.length=1:=HLK.out
     obtain ⟨g,gc,hgv,-,hgl⟩:=HOWN.out.form (by have:=HLK.out; simp only [argsN] at this; simp at this; omega)
     subst hgv
     have HX1:=Lib.hid x1
     have HC:Hid (∀ (q:Nat) (h:q<ts.length),wr.cell? ⟨g,q,none⟩=some (.int .i64 ts[q])):=Lib.hid (fun q h=>by
      have:=HOWN.out.cells (g:=g) rfl q _ (i64s_at ts q h)
      rw [Addr.add_lit,Nat.zero_add] at this
      exact this)
     have HLE:=Lib.hid (show ts.length≤2 by omega)
     rcases hun with rfl | rfl
     ·have HOKT:Hid ((∀ (p:Nat) (h:p<ts.length),ts[p]=1)→typE bs (Ex.mk 3 1 n v xs)=.ok 1):=Lib.hid (fun h=>by
       rw [HTS.out]
       have:=h 0 (by omega)
       simp [typ1,List.getD,List.getElem?_eq_getElem (show 0<ts.length by omega),this])
      have HBAD:Hid (∀ (q:Nat) (h:q<ts.length),ts[q]≠1→typE bs (Ex.mk 3 1 n v xs)=.er 15):=Lib.hid (fun q h hne=>by
       obtain rfl:q=0:=by omega
       rw [HTS.out]
       simp [typ1,List.getD,List.getElem?_eq_getElem (show 0<ts.length by omega),hne])
      have HL1:=Lib.hid hl1
      clear HTS hl1
      go_wp2_with fail
      go_loopw [4,5,14] (fun r4 r5 i wq=>r4=.int .i64 0∧r5=.int .i64 0∧∃ q:Nat,i=.int .i64 (q:Nat)∧q≤ts.length∧Hid (∀ (p:Nat) (h:p<ts.length),p<q→ts[p]=1)∧Hid (Below wr.heap.size wr wq)) (fun _ _ i _=>ts.length - (intOf i).toNat)
      case atStart=>exact ⟨rfl,rfl,0,rfl,Nat.zero_le _,Lib.hid (fun p h h2=>by omega),Lib.hid (Below.refl _ _)⟩
      case round=>
       obtain ⟨rfl,rfl,q,rfl,hq,HALL,HBQ⟩:=hrel
       have hq0:(0:Int)≤(q:Int):=by omega
       have hwq:IntKind.i64.wrap ((q:Int)+1)=(q:Int)+1:=by rw [IntKind.wrap_i64]; have:=HLE.out; omega
       clear x0 x1 x2 x3 x4
       have x1:=(HBQ.out.cell (p:=⟨w.heap.size,1,none⟩) (World.block_lt_of_cell? _ _ HX1.out)).trans HX1.out
       by_cases hql:q<ts.length
       ·have he1:decide ((q:Int)<(ts.length:Int))=true:=decide_eq_true (by omega)
        have he2:decide (q<ts.length)=true:=decide_eq_true hql
        have hqli:(q:Int)<(ts.length:Int):=by omega
        have cq:=(HBQ.out.cell (p:=⟨g,q,none⟩) (World.block_lt_of_cell? _ _ (HC.out q hql))).trans (HC.out q hql)
        have HBD:=Lib.hid (HBAD.out q hql)
        have HNX:Hid (ts[q]=1→∀ (p:Nat) (h:p<ts.length),p<q+1→ts[p]=1):=Lib.hid (fun e p h h2=>by
         by_cases e2:p=q
         ·subst e2; exact e
         ·exact HALL.out p h (by omega))
        generalize ts[q]=tq at cq HBD HNX
        by_cases ht:tq=1
        ·have HN2:=Lib.hid (HNX.out ht)
         subst ht
         clear HBD HNX HALL
         go_wp2_with fail
         exact ⟨⟨rfl,rfl,q+1,by go_num,by omega,HN2,HBQ⟩,by simp [intOf]; omega⟩
        ·have HV:=Lib.hid (HBD.out ht)
         have f1:(tq != 1)=true:=by simpa using ht
         have f2:(tq == 1)=false:=by simpa using ht
         clear HBD HNX HALL
         go_wp2_with fail
         go_ret2
         exact ⟨by rw [HV.out]; rfl,HBW.out.trans (HBQ.out.mono HBW.out.size)⟩
       ·have he1:decide ((q:Int)<(ts.length:Int))=false:=decide_eq_false (by omega)
        have he2:decide (q<ts.length)=false:=decide_eq_false hql
        have HV:=Lib.hid (HOKT.out (fun p h=>HALL.out p h (by omega)))
        clear HALL
        go_wp2_with fail
        go_ret2
        exact ⟨by rw [HV.out]; rfl,HBW.out.trans (HBQ.out.mono HBW.out.size)⟩
     ·have HOKT:Hid ((∀ (p:Nat) (h:p<ts.length),ts[p]=2)→typE bs (Ex.mk 3 2 n v xs)=.ok 2):=Lib.hid (fun h=>by
       rw [HTS.out]
       have:=h 0 (by omega)
       simp [typ1,List.getD,List.getElem?_eq_getElem (show 0<ts.length by omega),this])
      have HBAD:Hid (∀ (q:Nat) (h:q<ts.length),ts[q]≠2→typE bs (Ex.mk 3 2 n v xs)=.er 15):=Lib.hid (fun q h hne=>by
       obtain rfl:q=0:=by omega
       rw [HTS.out]
       simp [typ1,List.getD,List.getElem?_eq_getElem (show 0<ts.length by omega),hne])
      have HL1:=Lib.hid hl1
      clear HTS hl1
      go_wp2_with fail
      go_loopw [4,5,14] (fun r4 r5 i wq=>r4=.int .i64 0∧r5=.int .i64 0∧∃ q:Nat,i=.int .i64 (q:Nat)∧q≤ts.length∧Hid (∀ (p:Nat) (h:p<ts.length),p<q→ts[p]=2)∧Hid (Below wr.heap.size wr wq)) (fun _ _ i _=>ts.length - (intOf i).toNat)
      case atStart=>exact ⟨rfl,rfl,0,rfl,Nat.zero_le _,Lib.hid (fun p h h2=>by omega),Lib.hid (Below.refl _ _)⟩
      case round=>
       obtain ⟨rfl,rfl,q,rfl,hq,HALL,HBQ⟩:=hrel
       have hq0:(0:Int)≤(q:Int):=by omega
       have hwq:IntKind.i64.wrap ((q:Int)+1)=(q:Int)+1:=by rw [IntKind.wrap_i64]; have:=HLE.out; omega
       clear x0 x1 x2 x3 x4
       have x1:=(HBQ.out.cell (p:=⟨w.heap.size,1,none⟩) (World.block_lt_of_cell? _ _ HX1.out)).trans HX1.out
       by_cases hql:q<ts.length
       ·have he1:decide ((q:Int)<(ts.length:Int))=true:=decide_eq_true (by omega)
        have he2:decide (q<ts.length)=true:=decide_eq_true hql
        have hqli:(q:Int)<(ts.length:Int):=by omega
        have cq:=(HBQ.out.cell (p:=⟨g,q,none⟩) (World.block_lt_of_cell? _ _ (HC.out q hql))).trans (HC.out q hql)
        have HBD:=Lib.hid (HBAD.out q hql)
        have HNX:Hid (ts[q]=2→∀ (p:Nat) (h:p<ts.length),p<q+1→ts[p]=2):=Lib.hid (fun e p h h2=>by
         by_cases e2:p=q
         ·subst e2; exact e
         ·exact HALL.out p h (by omega))
        generalize ts[q]=tq at cq HBD HNX
        by_cases ht:tq=2
        ·have HN2:=Lib.hid (HNX.out ht)
         subst ht
         clear HBD HNX HALL
         go_wp2_with fail
         exact ⟨⟨rfl,rfl,q+1,by go_num,by omega,HN2,HBQ⟩,by simp [intOf]; omega⟩
        ·have HV:=Lib.hid (HBD.out ht)
         have f1:(tq != 2)=true:=by simpa using ht
         have f2:(tq == 2)=false:=by simpa using ht
         clear HBD HNX HALL
         go_wp2_with fail
         go_ret2
         exact ⟨by rw [HV.out]; rfl,HBW.out.trans (HBQ.out.mono HBW.out.size)⟩
       ·have he1:decide ((q:Int)<(ts.length:Int))=false:=decide_eq_false (by omega)
        have he2:decide (q<ts.length)=false:=decide_eq_false hql
        have HV:=Lib.hid (HOKT.out (fun p h=>HALL.out p h (by omega)))
        clear HALL
        go_wp2_with fail
        go_ret2
        exact ⟨by rw [HV.out]; rfl,HBW.out.trans (HBQ.out.mono HBW.out.size)⟩
    ·have hbin:=HP.out.bin rfl
     simp only [Ex.op] at hbin
     have hl2:ts.length=2:=HLK.out
     obtain ⟨g,gc,hgv,-,hgl⟩:=HOWN.out.form (by have:=HLK.out; simp only [argsN] at this; simp at this; omega)
     subst hgv
     have HX1:=Lib.hid x1
     have HC:Hid (∀ (q:Nat) (h:q<ts.length),wr.cell? ⟨g,q,none⟩=some (.int .i64 ts[q])):=Lib.hid (fun q h=>by
      have:=HOWN.out.cells (g:=g) rfl q _ (i64s_at ts q h)
      rw [Addr.add_lit,Nat.zero_add] at this
      exact this)
     have HLE:=Lib.hid (show ts.length≤2 by omega)
     have HT4:Hid (typE bs (Ex.mk 4 o n v xs)=if ts[0]≠ts[1]∨(opArg o≠0∧ts[0]≠opArg o) then .er 15 else .ok (opRes o)):=Lib.hid (by
      rw [HTS.out]
      simp only [typ1,List.getD,List.getElem?_eq_getElem (show 0<ts.length by omega),List.getElem?_eq_getElem (show 1<ts.length by omega),Option.getD_some]
      rw [if_neg (by omega),if_neg (by omega),if_neg (by omega)])
     clear HTS
     have hcl:(o=8∨o=9)∨(o=14∨o=15)∨o≤7∨(10≤o∧o≤13):=by omega
     rcases hcl with hcl | hcl | hcl | hcl
     ·obtain ⟨t0,ht0⟩:∃ t0,t0=ts[0]:=⟨_,rfl⟩
      have c0:wr.cell? ⟨g,0,none⟩=some (.int .i64 t0):=by rw [ht0]; exact HC.out 0 (by omega)
      have hA:opArg o=0:=by unfold opArg; rw [if_pos hcl]
      have hR:opRes o=2:=by unfold opRes; rw [if_neg (by omega)]
      have HOKT:Hid ((∀ (p:Nat) (h:p<ts.length),ts[p]=t0)→typE bs (Ex.mk 4 o n v xs)=.ok 2):=Lib.hid (fun h=>by
       rw [HT4.out,hA,hR,h 0 (by omega),h 1 (by omega)]
       simp)
      have HBAD:Hid (∀ (q:Nat) (h:q<ts.length),ts[q]≠t0→typE bs (Ex.mk 4 o n v xs)=.er 15):=Lib.hid (fun q h hne=>by
       rw [HT4.out,if_pos]
       have hq:q=0∨q=1:=by omega
       rcases hq with rfl | rfl
       ·exact absurd ht0.symm hne
       ·exact .inl (fun e=>hne (by rw [ht0,e])))
      have hlz:(0:Int)<(ts.length:Int):=by omega
      have HL2:=Lib.hid hl2
      clear HT4 ht0 hA hR hl2
      rcases hcl with rfl | rfl
      ·go_wp2_with fail
       go_loopw [4,5,14] (fun r4 r5 i wq=>r4=.int .i64 0∧r5=.int .i64 0∧∃ q:Nat,i=.int .i64 (q:Nat)∧q≤ts.length∧Hid (∀ (p:Nat) (h:p<ts.length),p<q→ts[p]=t0)∧Hid (Below wr.heap.size wr wq)) (fun _ _ i _=>ts.length - (intOf i).toNat)
       case atStart=>exact ⟨rfl,rfl,0,rfl,Nat.zero_le _,Lib.hid (fun p h h2=>by omega),Lib.hid (Below.refl _ _)⟩
       case round=>
        obtain ⟨rfl,rfl,q,rfl,hq,HALL,HBQ⟩:=hrel
        have hq0:(0:Int)≤(q:Int):=by omega
        have hwq:IntKind.i64.wrap ((q:Int)+1)=(q:Int)+1:=by rw [IntKind.wrap_i64]; have:=HLE.out; omega
        clear x0 x1 x2 x3 x4 c0
        have x1:=(HBQ.out.cell (p:=⟨w.heap.size,1,none⟩) (World.block_lt_of_cell? _ _ HX1.out)).trans HX1.out
        by_cases hql:q<ts.length
        ·have he1:decide ((q:Int)<(ts.length:Int))=true:=decide_eq_true (by omega)
         have he2:decide (q<ts.length)=true:=decide_eq_true hql
         have hqli:(q:Int)<(ts.length:Int):=by omega
         have cq:=(HBQ.out.cell (p:=⟨g,q,none⟩) (World.block_lt_of_cell? _ _ (HC.out q hql))).trans (HC.out q hql)
         have HBD:=Lib.hid (HBAD.out q hql)
         have HNX:Hid (ts[q]=t0→∀ (p:Nat) (h:p<ts.length),p<q+1→ts[p]=t0):=Lib.hid (fun e p h h2=>by
          by_cases e2:p=q
          ·subst e2; exact e
          ·exact HALL.out p h (by omega))
         generalize ts[q]=tq at cq HBD HNX
         by_cases ht:tq=t0
         ·have HN2:=Lib.hid (HNX.out ht)
          subst ht
          clear HBD HNX HALL
          go_wp2_with fail
          exact ⟨⟨rfl,rfl,q+1,by go_num,by omega,HN2,HBQ⟩,by simp [intOf]; omega⟩
         ·have HV:=Lib.hid (HBD.out ht)
          have f1:(tq != t0)=true:=by simpa using ht
          have f2:(tq == t0)=false:=by simpa using ht
          clear HBD HNX HALL
          go_wp2_with fail
          go_ret2
          exact ⟨by rw [HV.out]; rfl,HBW.out.trans (HBQ.out.mono HBW.out.size)⟩
        ·have he1:decide ((q:Int)<(ts.length:Int))=false:=decide_eq_false (by omega)
         have he2:decide (q<ts.length)=false:=decide_eq_false hql
         have HV:=Lib.hid (HOKT.out (fun p h=>HALL.out p h (by omega)))
         clear HALL
         go_wp2_with fail
         go_ret2
         exact ⟨by rw [HV.out]; rfl,HBW.out.trans (HBQ.out.mono HBW.out.size)⟩
      ·go_wp2_with fail
       go_loopw [4,5,14] (fun r4 r5 i wq=>r4=.int .i64 0∧r5=.int .i64 0∧∃ q:Nat,i=.int .i64 (q:Nat)∧q≤ts.length∧Hid (∀ (p:Nat) (h:p<ts.length),p<q→ts[p]=t0)∧Hid (Below wr.heap.size wr wq)) (fun _ _ i _=>ts.length - (intOf i).toNat)
       case atStart=>exact ⟨rfl,rfl,0,rfl,Nat.zero_le _,Lib.hid (fun p h h2=>by omega),Lib.hid (Below.refl _ _)⟩
       case round=>
        obtain ⟨rfl,rfl,q,rfl,hq,HALL,HBQ⟩:=hrel
        have hq0:(0:Int)≤(q:Int):=by omega
        have hwq:IntKind.i64.wrap ((q:Int)+1)=(q:Int)+1:=by rw [IntKind.wrap_i64]; have:=HLE.out; omega
        clear x0 x1 x2 x3 x4 c0
        have x1:=(HBQ.out.cell (p:=⟨w.heap.size,1,none⟩) (World.block_lt_of_cell? _ _ HX1.out)).trans HX1.out
        by_cases hql:q<ts.length
        ·have he1:decide ((q:Int)<(ts.length:Int))=true:=decide_eq_true (by omega)
         have he2:decide (q<ts.length)=true:=decide_eq_true hql
         have hqli:(q:Int)<(ts.length:Int):=by omega
         have cq:=(HBQ.out.cell (p:=⟨g,q,none⟩) (World.block_lt_of_cell? _ _ (HC.out q hql))).trans (HC.out q hql)
         have HBD:=Lib.hid (HBAD.out q hql)
         have HNX:Hid (ts[q]=t0→∀ (p:Nat) (h:p<ts.length),p<q+1→ts[p]=t0):=Lib.hid (fun e p h h2=>by
          by_cases e2:p=q
          ·subst e2; exact e
          ·exact HALL.out p h (by omega))
         generalize ts[q]=tq at cq HBD HNX
         by_cases ht:tq=t0
         ·have HN2:=Lib.hid (HNX.out ht)
          subst ht
          clear HBD HNX HALL
          go_wp2_with fail
          exact ⟨⟨rfl,rfl,q+1,by go_num,by omega,HN2,HBQ⟩,by simp [intOf]; omega⟩
         ·have HV:=Lib.hid (HBD.out ht)
          have f1:(tq != t0)=true:=by simpa using ht
          have f2:(tq == t0)=false:=by simpa using ht
          clear HBD HNX HALL
          go_wp2_with fail
          go_ret2
          exact ⟨by rw [HV.out]; rfl,HBW.out.trans (HBQ.out.mono HBW.out.size)⟩
        ·have he1:decide ((q:Int)<(ts.length:Int))=false:=decide_eq_false (by omega)
         have he2:decide (q<ts.length)=false:=decide_eq_false hql
         have HV:=Lib.hid (HOKT.out (fun p h=>HALL.out p h (by omega)))
         clear HALL
         go_wp2_with fail
         go_ret2
         exact ⟨by rw [HV.out]; rfl,HBW.out.trans (HBQ.out.mono HBW.out.size)⟩
     ·rcases hcl with rfl | rfl
      ·have HOKT:Hid ((∀ (p:Nat) (h:p<ts.length),ts[p]=2)→typE bs (Ex.mk 4 14 n v xs)=.ok 2):=Lib.hid (fun h=>by
        rw [HT4.out,show opArg 14=2 from rfl,show opRes 14=2 from rfl,h 0 (by omega),h 1 (by omega)]
        simp)
       have HBAD:Hid (∀ (q:Nat) (h:q<ts.length),ts[q]≠2→typE bs (Ex.mk 4 14 n v xs)=.er 15):=Lib.hid (fun q h hne=>by
        rw [HT4.out,if_pos]
        have hq:q=0∨q=1:=by omega
        rcases hq with rfl | rfl
        ·exact .inr ⟨by decide,hne⟩
        ·by_cases e:ts[0]=ts[1]
         ·exact .inr ⟨by decide,by rw [e]; exact hne⟩
         ·exact .inl e)
       clear HT4
       have HL2:=Lib.hid hl2
       clear hl2
       go_wp2_with fail
       go_loopw [4,5,14] (fun r4 r5 i wq=>r4=.int .i64 0∧r5=.int .i64 0∧∃ q:Nat,i=.int .i64 (q:Nat)∧q≤ts.length∧Hid (∀ (p:Nat) (h:p<ts.length),p<q→ts[p]=2)∧Hid (Below wr.heap.size wr wq)) (fun _ _ i _=>ts.length - (intOf i).toNat)
       case atStart=>exact ⟨rfl,rfl,0,rfl,Nat.zero_le _,Lib.hid (fun p h h2=>by omega),Lib.hid (Below.refl _ _)⟩
       case round=>
        obtain ⟨rfl,rfl,q,rfl,hq,HALL,HBQ⟩:=hrel
        have hq0:(0:Int)≤(q:Int):=by omega
        have hwq:IntKind.i64.wrap ((q:Int)+1)=(q:Int)+1:=by rw [IntKind.wrap_i64]; have:=HLE.out; omega
        clear x0 x1 x2 x3 x4
        have x1:=(HBQ.out.cell (p:=⟨w.heap.size,1,none⟩) (World.block_lt_of_cell? _ _ HX1.out)).trans HX1.out
        by_cases hql:q<ts.length
        ·have he1:decide ((q:Int)<(ts.length:Int))=true:=decide_eq_true (by omega)
         have he2:decide (q<ts.length)=true:=decide_eq_true hql
         have hqli:(q:Int)<(ts.length:Int):=by omega
         have cq:=(HBQ.out.cell (p:=⟨g,q,none⟩) (World.block_lt_of_cell? _ _ (HC.out q hql))).trans (HC.out q hql)
         have HBD:=Lib.hid (HBAD.out q hql)
         have HNX:Hid (ts[q]=2→∀ (p:Nat) (h:p<ts.length),p<q+1→ts[p]=2):=Lib.hid (fun e p h h2=>by
          by_cases e2:p=q
          ·subst e2; exact e
          ·exact HALL.out p h (by omega))
         generalize ts[q]=tq at cq HBD HNX
         by_cases ht:tq=2
         ·have HN2:=Lib.hid (HNX.out ht)
          subst ht
          clear HBD HNX HALL
          go_wp2_with fail
          exact ⟨⟨rfl,rfl,q+1,by go_num,by omega,HN2,HBQ⟩,by simp [intOf]; omega⟩
         ·have HV:=Lib.hid (HBD.out ht)
          have f1:(tq != 2)=true:=by simpa using ht
          have f2:(tq == 2)=false:=by simpa using ht
          clear HBD HNX HALL
          go_wp2_with fail
          go_ret2
          exact ⟨by rw [HV.out]; rfl,HBW.out.trans (HBQ.out.mono HBW.out.size)⟩
        ·have he1:decide ((q:Int)<(ts.length:Int))=false:=decide_eq_false (by omega)
         have he2:decide (q<ts.length)=false:=decide_eq_false hql
         have HV:=Lib.hid (HOKT.out (fun p h=>HALL.out p h (by omega)))
         clear HALL
         go_wp2_with fail
         go_ret2
         exact ⟨by rw [HV.out]; rfl,HBW.out.trans (HBQ.out.mono HBW.out.size)⟩
      ·have HOKT:Hid ((∀ (p:Nat) (h:p<ts.length),ts[p]=2)→typE bs (Ex.mk 4 15 n v xs)=.ok 2):=Lib.hid (fun h=>by
        rw [HT4.out,show opArg 15=2 from rfl,show opRes 15=2 from rfl,h 0 (by omega),h 1 (by omega)]
        simp)
       have HBAD:Hid (∀ (q:Nat) (h:q<ts.length),ts[q]≠2→typE bs (Ex.mk 4 15 n v xs)=.er 15):=Lib.hid (fun q h hne=>by
        rw [HT4.out,if_pos]
        have hq:q=0∨q=1:=by omega
        rcases hq with rfl | rfl
        ·exact .inr ⟨by decide,hne⟩
        ·by_cases e:ts[0]=ts[1]
         ·exact .inr ⟨by decide,by rw [e]; exact hne⟩
         ·exact .inl e)
       clear HT4
       have HL2:=Lib.hid hl2
       clear hl2
       go_wp2_with fail
       go_loopw [4,5,14] (fun r4 r5 i wq=>r4=.int .i64 0∧r5=.int .i64 0∧∃ q:Nat,i=.int .i64 (q:Nat)∧q≤ts.length∧Hid (∀ (p:Nat) (h:p<ts.length),p<q→ts[p]=2)∧Hid (Below wr.heap.size wr wq)) (fun _ _ i _=>ts.length - (intOf i).toNat)
       case atStart=>exact ⟨rfl,rfl,0,rfl,Nat.zero_le _,Lib.hid (fun p h h2=>by omega),Lib.hid (Below.refl _ _)⟩
       case round=>
        obtain ⟨rfl,rfl,q,rfl,hq,HALL,HBQ⟩:=hrel
        have hq0:(0:Int)≤(q:Int):=by omega
        have hwq:IntKind.i64.wrap ((q:Int)+1)=(q:Int)+1:=by rw [IntKind.wrap_i64]; have:=HLE.out; omega
        clear x0 x1 x2 x3 x4
        have x1:=(HBQ.out.cell (p:=⟨w.heap.size,1,none⟩) (World.block_lt_of_cell? _ _ HX1.out)).trans HX1.out
        by_cases hql:q<ts.length
        ·have he1:decide ((q:Int)<(ts.length:Int))=true:=decide_eq_true (by omega)
         have he2:decide (q<ts.length)=true:=decide_eq_true hql
         have hqli:(q:Int)<(ts.length:Int):=by omega
         have cq:=(HBQ.out.cell (p:=⟨g,q,none⟩) (World.block_lt_of_cell? _ _ (HC.out q hql))).trans (HC.out q hql)
         have HBD:=Lib.hid (HBAD.out q hql)
         have HNX:Hid (ts[q]=2→∀ (p:Nat) (h:p<ts.length),p<q+1→ts[p]=2):=Lib.hid (fun e p h h2=>by
          by_cases e2:p=q
          ·subst e2; exact e
          ·exact HALL.out p h (by omega))
         generalize ts[q]=tq at cq HBD HNX
         by_cases ht:tq=2
         ·have HN2:=Lib.hid (HNX.out ht)
          subst ht
          clear HBD HNX HALL
          go_wp2_with fail
          exact ⟨⟨rfl,rfl,q+1,by go_num,by omega,HN2,HBQ⟩,by simp [intOf]; omega⟩
         ·have HV:=Lib.hid (HBD.out ht)
          have f1:(tq != 2)=true:=by simpa using ht
          have f2:(tq == 2)=false:=by simpa using ht
          clear HBD HNX HALL
          go_wp2_with fail
          go_ret2
          exact ⟨by rw [HV.out]; rfl,HBW.out.trans (HBQ.out.mono HBW.out.size)⟩
        ·have he1:decide ((q:Int)<(ts.length:Int))=false:=decide_eq_false (by omega)
         have he2:decide (q<ts.length)=false:=decide_eq_false hql
         have HV:=Lib.hid (HOKT.out (fun p h=>HALL.out p h (by omega)))
         clear HALL
         go_wp2_with fail
         go_ret2
         exact ⟨by rw [HV.out]; rfl,HBW.out.trans (HBQ.out.mono HBW.out.size)⟩
     ·have hA:opArg o=1:=by unfold opArg; rw [if_neg (by omega),if_neg (by omega)]
      have hR:opRes o=1:=by unfold opRes; rw [if_pos (by omega)]
      have HOKT:Hid ((∀ (p:Nat) (h:p<ts.length),ts[p]=1)→typE bs (Ex.mk 4 o n v xs)=.ok 1):=Lib.hid (fun h=>by
       rw [HT4.out,hA,hR,h 0 (by omega),h 1 (by omega)]
       simp)
      have HBAD:Hid (∀ (q:Nat) (h:q<ts.length),ts[q]≠1→typE bs (Ex.mk 4 o n v xs)=.er 15):=Lib.hid (fun q h hne=>by
       rw [HT4.out,hA,if_pos]
       have hq:q=0∨q=1:=by omega
       rcases hq with rfl | rfl
       ·exact .inr ⟨by omega,hne⟩
       ·by_cases e:ts[0]=ts[1]
        ·exact .inr ⟨by omega,by rw [e]; exact hne⟩
        ·exact .inl e)
      clear HT4
      have b2:(o == 2)=false:=by simpa using (by omega:¬ o=2)
      have b14:(o == 14)=false:=by simpa using (by omega:¬ o=14)
      have b15:(o == 15)=false:=by simpa using (by omega:¬ o=15)
      have b8:(o == 8)=false:=by simpa using (by omega:¬ o=8)
      have b9:(o == 9)=false:=by simpa using (by omega:¬ o=9)
      have c1:decide (o ≥ 8)=false:=decide_eq_false (by omega)
      have c2:decide (8≤o)=false:=decide_eq_false (by omega)
      have HL2:=Lib.hid hl2
      have HBI:=Lib.hid hbin
      clear hl2 hA hR hcl hbin
      go_wp2_with fail
      go_loopw [4,5,14] (fun r4 r5 i wq=>r4=.int .i64 0∧r5=.int .i64 0∧∃ q:Nat,i=.int .i64 (q:Nat)∧q≤ts.length∧Hid (∀ (p:Nat) (h:p<ts.length),p<q→ts[p]=1)∧Hid (Below wr.heap.size wr wq)) (fun _ _ i _=>ts.length - (intOf i).toNat)
      case atStart=>exact ⟨rfl,rfl,0,rfl,Nat.zero_le _,Lib.hid (fun p h h2=>by omega),Lib.hid (Below.refl _ _)⟩
      case round=>
       obtain ⟨rfl,rfl,q,rfl,hq,HALL,HBQ⟩:=hrel
       have hq0:(0:Int)≤(q:Int):=by omega
       have hwq:IntKind.i64.wrap ((q:Int)+1)=(q:Int)+1:=by rw [IntKind.wrap_i64]; have:=HLE.out; omega
       clear x0 x1 x2 x3 x4
       have x1:=(HBQ.out.cell (p:=⟨w.heap.size,1,none⟩) (World.block_lt_of_cell? _ _ HX1.out)).trans HX1.out
       by_cases hql:q<ts.length
       ·have he1:decide ((q:Int)<(ts.length:Int))=true:=decide_eq_true (by omega)
        have he2:decide (q<ts.length)=true:=decide_eq_true hql
        have hqli:(q:Int)<(ts.length:Int):=by omega
        have cq:=(HBQ.out.cell (p:=⟨g,q,none⟩) (World.block_lt_of_cell? _ _ (HC.out q hql))).trans (HC.out q hql)
        have HBD:=Lib.hid (HBAD.out q hql)
        have HNX:Hid (ts[q]=1→∀ (p:Nat) (h:p<ts.length),p<q+1→ts[p]=1):=Lib.hid (fun e p h h2=>by
         by_cases e2:p=q
         ·subst e2; exact e
         ·exact HALL.out p h (by omega))
        generalize ts[q]=tq at cq HBD HNX
        by_cases ht:tq=1
        ·have HN2:=Lib.hid (HNX.out ht)
         subst ht
         clear HBD HNX HALL
         go_wp2_with fail
         exact ⟨⟨rfl,rfl,q+1,by go_num,by omega,HN2,HBQ⟩,by simp [intOf]; omega⟩
        ·have HV:=Lib.hid (HBD.out ht)
         have f1:(tq != 1)=true:=by simpa using ht
         have f2:(tq == 1)=false:=by simpa using ht
         clear HBD HNX HALL
         go_wp2_with fail
         go_ret2
         exact ⟨by rw [HV.out]; rfl,HBW.out.trans (HBQ.out.mono HBW.out.size)⟩
       ·have he1:decide ((q:Int)<(ts.length:Int))=false:=decide_eq_false (by omega)
        have he2:decide (q<ts.length)=false:=decide_eq_false hql
        have HV:=Lib.hid (HOKT.out (fun p h=>HALL.out p h (by omega)))
        clear HALL
        go_wp2_with fail
        go_ret2
        exact ⟨by rw [HV.out]; rfl,HBW.out.trans (HBQ.out.mono HBW.out.size)⟩
     ·have hA:opArg o=1:=by unfold opArg; rw [if_neg (by omega),if_neg (by omega)]
      have hR:opRes o=2:=by unfold opRes; rw [if_neg (by omega)]
      have HOKT:Hid ((∀ (p:Nat) (h:p<ts.length),ts[p]=1)→typE bs (Ex.mk 4 o n v xs)=.ok 2):=Lib.hid (fun h=>by
       rw [HT4.out,hA,hR,h 0 (by omega),h 1 (by omega)]
       simp)
      have HBAD:Hid (∀ (q:Nat) (h:q<ts.length),ts[q]≠1→typE bs (Ex.mk 4 o n v xs)=.er 15):=Lib.hid (fun q h hne=>by
       rw [HT4.out,hA,if_pos]
       have hq:q=0∨q=1:=by omega
       rcases hq with rfl | rfl
       ·exact .inr ⟨by omega,hne⟩
       ·by_cases e:ts[0]=ts[1]
        ·exact .inr ⟨by omega,by rw [e]; exact hne⟩
        ·exact .inl e)
      clear HT4
      have b2:(o == 2)=false:=by simpa using (by omega:¬ o=2)
      have b14:(o == 14)=false:=by simpa using (by omega:¬ o=14)
      have b15:(o == 15)=false:=by simpa using (by omega:¬ o=15)
      have b8:(o == 8)=false:=by simpa using (by omega:¬ o=8)
      have b9:(o == 9)=false:=by simpa using (by omega:¬ o=9)
      have c1:decide (o ≥ 8)=true:=decide_eq_true (by omega)
      have c2:decide (8≤o)=true:=decide_eq_true (by omega)
      have HL2:=Lib.hid hl2
      have HBI:=Lib.hid hbin
      clear hl2 hA hR hcl hbin
      go_wp2_with fail
      go_loopw [4,5,14] (fun r4 r5 i wq=>r4=.int .i64 0∧r5=.int .i64 0∧∃ q:Nat,i=.int .i64 (q:Nat)∧q≤ts.length∧Hid (∀ (p:Nat) (h:p<ts.length),p<q→ts[p]=1)∧Hid (Below wr.heap.size wr wq)) (fun _ _ i _=>ts.length - (intOf i).toNat)
      case atStart=>exact ⟨rfl,rfl,0,rfl,Nat.zero_le _,Lib.hid (fun p h h2=>by omega),Lib.hid (Below.refl _ _)⟩
      case round=>
       obtain ⟨rfl,rfl,q,rfl,hq,HALL,HBQ⟩:=hrel
       have hq0:(0:Int)≤(q:Int):=by omega
       have hwq:IntKind.i64.wrap ((q:Int)+1)=(q:Int)+1:=by rw [IntKind.wrap_i64]; have:=HLE.out; omega
       clear x0 x1 x2 x3 x4
       have x1:=(HBQ.out.cell (p:=⟨w.heap.size,1,none⟩) (World.block_lt_of_cell? _ _ HX1.out)).trans HX1.out
       by_cases hql:q<ts.length
       ·have he1:decide ((q:Int)<(ts.length:Int))=true:=decide_eq_true (by omega)
        have he2:decide (q<ts.length)=true:=decide_eq_true hql
        have hqli:(q:Int)<(ts.length:Int):=by omega
        have cq:=(HBQ.out.cell (p:=⟨g,q,none⟩) (World.block_lt_of_cell? _ _ (HC.out q hql))).trans (HC.out q hql)
        have HBD:=Lib.hid (HBAD.out q hql)
        have HNX:Hid (ts[q]=1→∀ (p:Nat) (h:p<ts.length),p<q+1→ts[p]=1):=Lib.hid (fun e p h h2=>by
         by_cases e2:p=q
         ·subst e2; exact e
         ·exact HALL.out p h (by omega))
        generalize ts[q]=tq at cq HBD HNX
        by_cases ht:tq=1
        ·have HN2:=Lib.hid (HNX.out ht)
         subst ht
         clear HBD HNX HALL
         go_wp2_with fail
         exact ⟨⟨rfl,rfl,q+1,by go_num,by omega,HN2,HBQ⟩,by simp [intOf]; omega⟩
        ·have HV:=Lib.hid (HBD.out ht)
         have f1:(tq != 1)=true:=by simpa using ht
         have f2:(tq == 1)=false:=by simpa using ht
         clear HBD HNX HALL
         go_wp2_with fail
         go_ret2
         exact ⟨by rw [HV.out]; rfl,HBW.out.trans (HBQ.out.mono HBW.out.size)⟩
       ·have he1:decide ((q:Int)<(ts.length:Int))=false:=decide_eq_false (by omega)
        have he2:decide (q<ts.length)=false:=decide_eq_false hql
        have HV:=Lib.hid (HOKT.out (fun p h=>HALL.out p h (by omega)))
        clear HALL
        go_wp2_with fail
        go_ret2
        exact ⟨by rw [HV.out]; rfl,HBW.out.trans (HBQ.out.mono HBW.out.size)⟩
end Go.Proofs.YtmbffkemfepekaaGreatDoor

namespace Go.Proofs.YtmbffkemfepekaaGreatDoor
end Go.Proofs.YtmbffkemfepekaaGreatDoor

namespace Go.Proofs.YtmbffkemfepekaaGreatDoor
open Go.RowKit Go.Deep
theorem cell_of_cells {W:World} {g j:Nat} {L:List Value} {T:TypeId} {fz:Nat × Nat} (h:W.heap[g]? = some (.cells L.toArray T fz)) {u:Value} (hu:L[j]? = some u):W.cell? ⟨g,j,none⟩=some u:=by
 simp only [World.cell?,h]
 rw [List.getElem?_toArray]
 exact hu
end Go.Proofs.YtmbffkemfepekaaGreatDoor

namespace Go.Proofs.YtmbffkemfepekaaGreatDoor
open Go.RowKit
set_option maxRecDepth 100000 in
set_option maxHeartbeats 3200000 in
theorem rtypeE_any (bs:List Bd) (V:BdOk bs) (Ab:Option Addr) (cb Bb:Nat) (e:Ex) (lo:Nat) (vs:List Value) (w:World) (hL:LiesE w lo vs e) (hlo:lo≤w.heap.size) (hR:RdB w Bb Ab bs) (hBb:Bb≤w.heap.size) :
  Calls Tryz.prog 58 #[.agg vs.toArray,.slice Ab bs.length cb] w (Ret (ansV (typeE bs e)) w):=by
 have HCK:=Lib.hid (fun (W:World) (hb:Below w.heap.size w W)=>rcheckE_any e lo vs W (hL.below' hb hlo) (Nat.le_trans hlo hb.size))
 have HBD:=Lib.hid (fun (W:World) (hb:Below w.heap.size w W)=>(rbind_any bs Ab cb Bb W (Rd.below' hR hb hBb) (Nat.le_trans hBb hb.size)).mono (fun e W' (h:RetC (BdOk bs) W e W')=>(by
  obtain ⟨h1,f,h2,h3⟩:=h
  rw [h3.2 V] at h2
  exact ⟨h2,h1⟩:e=.returned (.int .i64 0)∧Below W.heap.size W W')))
 have HTY:=Lib.hid (fun (hc:chkE e=0) (W:World) (hb:Below w.heap.size w W)=>rtype_any bs Ab cb Bb (by have:=V.len; omega) e lo vs W (good_of e hc).1 (hL.below' hb hlo) (Nat.le_trans hlo hb.size) (Rd.below' hR hb hBb) (Nat.le_trans hBb hb.size))
 obtain ⟨A,cap,rfl,bd,-⟩:=hL.arg
 have hO:=one_new w #[.int .i64 e.kind,.int .i64 e.op,.string e.name,.int .i64 e.val,.slice A e.args.length cap] 38
 by_cases hc:chkE e=0
 ·have HV:Hid (typeE bs e=typE bs e):=Lib.hid (by unfold typeE; rw [if_pos hc])
  replace HTY:=Lib.hid (HTY.out hc)
  rw [hc] at HCK
  obtain ⟨rn,rf,hrr⟩:∃ (rn:Int) (rf:Nat),ansV (typE bs e)=.tuple #[.int .i64 rn,.int .i64 (rf:Nat)]:=⟨_,_,rfl⟩
  rw [hrr] at HTY
  have HRR:=Lib.hid hrr
  unfold exC Ret at HCK HTY
  unfold exC Ret
  clear hL hR bd hc hrr V
  go_enter Tryz.func58,Tryz.ntmps58
  go_upto_region 1 with fail
  generalize w.alloc _=w1 at hO ⊢
  obtain ⟨x0,x1,x2,x3,x4⟩:=bx5 hO.fst
  go_wp2_with fail
  refine (HCK.out _ hO.below).mono ?_
  rintro e2 w2 ⟨rfl,hb2⟩
  clear x0 x1 x2 x3 x4
  replace hO:=hO.next hb2
  clear hb2
  go_wp2_with fail
  refine (HBD.out _ hO.below).mono ?_
  rintro e3 w3 ⟨rfl,hb3⟩
  replace hO:=hO.next hb3
  clear hb3
  obtain ⟨x0,x1,x2,x3,x4⟩:=bx5 hO.fst
  go_wp2_with fail
  refine (HTY.out _ hO.below).mono ?_
  rintro e4 w4 ⟨rfl,hb4⟩
  have HB:=Lib.hid (hO.below.trans (hb4.mono hO.below.size))
  clear x0 x1 x2 x3 x4 hO hb4
  go_wp2_with fail
  go_ret2
  exact ⟨by rw [HV.out,HRR.out]; rfl,HB.out⟩
 ·have HV:Hid (typeE bs e=.er (chkE e)):=Lib.hid (by unfold typeE; rw [if_neg hc])
  generalize chkE e=f at HCK HV hc
  have e1:((f:Int) != 0)=true:=by simpa using hc
  have e2:(f != 0)=true:=by simpa using hc
  unfold exC Ret at HCK
  unfold exC ansV Ret
  clear hL hR bd hc HTY HBD V
  go_enter Tryz.func58,Tryz.ntmps58
  go_upto_region 1 with fail
  generalize w.alloc _=w1 at hO ⊢
  obtain ⟨x0,x1,x2,x3,x4⟩:=bx5 hO.fst
  go_wp2_with fail
  refine (HCK.out _ hO.below).mono ?_
  rintro e2 w2 ⟨rfl,hb2⟩
  have HB:=Lib.hid (hO.below.trans (hb2.mono hO.below.size))
  clear x0 x1 x2 x3 x4 hO hb2
  go_wp2_with fail
  go_ret2
  exact ⟨by rw [HV.out]; rfl,HB.out⟩
end Go.Proofs.YtmbffkemfepekaaGreatDoor

namespace Go.Proofs.YtmbffkemfepekaaGreatDoor
open Go.RowKit
theorem aw_kd:awB 0 0 0=kdB:=by rfl
theorem rnames_any (w:World):Calls Tryz.prog 39 #[] w (fun e W=>Below w.heap.size w W∧∃ K,e=.returned (.slice (some ⟨K,0,none⟩) kdB.length 11)∧w.heap.size≤K∧K<W.heap.size∧RdB W (K+1) (some ⟨K,0,none⟩) kdB):=by
 refine (names_any w).mono fun e W h=>?_
 obtain ⟨hb,K,rfl,hK,hrow⟩:=h
 rw [aw_kd] at hrow
 refine ⟨hb,K,rfl,hK,(Array.getElem?_eq_some_iff.1 hrow).1,?_,.inr ⟨K,0,rfl,by omega,fun j u hu=>?_⟩⟩
 ·exact flat_len (f:=Bd.cells) (s:=3) (fun _=>rfl) kdB
 ·rw [Nat.zero_add]
  exact cell_of_cells hrow hu
set_option maxRecDepth 100000 in
set_option maxHeartbeats 3200000 in
theorem rckx_any (e:Ex) (t:Int) (lo:Nat) (vs:List Value) (w:World) (hL:LiesE w lo vs e) (hlo:lo≤w.heap.size) :
  Calls Tryz.prog 29 #[.agg vs.toArray,.int .i64 t] w (Ret (.int .i64 (tyE e t:Nat)) w):=by
 have HTY:=Lib.hid (fun (W:World) (hb:Below w.heap.size w W) (K:Nat) (hK:K<W.heap.size) (hr:RdB W (K+1) (some ⟨K,0,none⟩) kdB)=>rtypeE_any kdB bdok_kd (some ⟨K,0,none⟩) 11 (K+1) e lo vs W (hL.below' hb hlo) (Nat.le_trans hlo hb.size) hr hK)
 obtain ⟨A,cap,rfl,bd,-⟩:=hL.arg
 have hO:=one_new w #[.int .i64 e.kind,.int .i64 e.op,.string e.name,.int .i64 e.val,.slice A e.args.length cap] 38
 have HV:Hid (tyE e t=match typeE kdB e with | .er f=>f | .ok n=>if n=t then 0 else 15):=Lib.hid rfl
 have HNE:=Lib.hid (fun f h=>typeE_ne kdB e f h)
 generalize tyE e t=R at HV ⊢
 unfold exC ansV Ret at HTY
 unfold exC Ret
 clear hL bd
 have HO:=Lib.hid (fun (W:World) (hW:Below (w.alloc (.cells #[.int .i64 e.kind,.int .i64 e.op,.string e.name,.int .i64 e.val,.slice A e.args.length cap] 38)).heap.size (w.alloc (.cells #[.int .i64 e.kind,.int .i64 e.op,.string e.name,.int .i64 e.val,.slice A e.args.length cap] 38)) W)=>hO.next hW)
 go_enter Tryz.func29,Tryz.ntmps29
 go_upto_region 1 with fail
 generalize w.alloc _=w1 at hO HO ⊢
 have HBW:=Lib.hid hO.below
 have HC:Hid (∀ W,Below w1.heap.size w1 W→W.cell? ⟨w.heap.size,0,none⟩=some (.int .i64 e.kind)∧W.cell? ⟨w.heap.size,1,none⟩=some (.int .i64 e.op)∧W.cell? ⟨w.heap.size,2,none⟩=some (.string e.name)∧W.cell? ⟨w.heap.size,3,none⟩=some (.int .i64 e.val)∧W.cell? ⟨w.heap.size,4,none⟩=some (.slice A e.args.length cap)):=Lib.hid (fun W hW=>bx5 (HO.out W hW).fst)
 clear hO HO
 go_cut [5,6] (fun a b wx=>a=.int .i64 (typeE kdB e).n∧b=.int .i64 ((typeE kdB e).f:Nat)∧Below w1.heap.size w1 wx)
 case first=>
  have hB:Below w1.heap.size w1 w1.drew:=below_drews _ _ 1
  go_region_held3 (fun W=>W.cell? ⟨w.heap.size,0,none⟩=some (.int .i64 e.kind)∧W.cell? ⟨w.heap.size,1,none⟩=some (.int .i64 e.op)∧W.cell? ⟨w.heap.size,2,none⟩=some (.string e.name)∧W.cell? ⟨w.heap.size,3,none⟩=some (.int .i64 e.val)∧W.cell? ⟨w.heap.size,4,none⟩=some (.slice A e.args.length cap))
   (first | exact HC.out _ hB | exact HC.out _ (below_drews _ _ 1))
   (first
   | (go_at_call 39; refine (rnames_any _).mono ?_; rintro e5 W ⟨hb5,K,rfl,-,hK,hr⟩; replace hB:=hB.trans (hb5.mono hB.size); have HT:=Lib.hid (HTY.out W (HBW.out.trans (hB.mono HBW.out.size)) K hK hr); clear hb5 hr)
   | (go_at_call 58; refine HT.out.mono ?_; rintro e6 W6 ⟨rfl,hb6⟩; replace hB:=hB.trans (hb6.mono hB.size)))
  go_wp2_with fail
  go_meet
  exact ⟨rfl,rfl,hB⟩
 case rest=>
  obtain ⟨rfl,rfl,hbx⟩:=hcut
  have HB:=Lib.hid (HBW.out.trans (hbx.mono HBW.out.size))
  clear HC HTY hbx
  cases ht:typeE kdB e with
  | er f=>
   have hf:=HNE.out f ht
   have HV2:Hid (R=f):=Lib.hid (by rw [HV.out,ht])
   simp only [Ans.n,Ans.f]
   have e1:((f:Int) != 0)=true:=by simpa using hf
   have e2:(f != 0)=true:=by simpa using hf
   clear ht hf HNE HV
   go_wp2_with fail
   go_ret
   exact ⟨by rw [HV2.out]; rfl,HB.out⟩
  | ok n=>
   simp only [Ans.n,Ans.f]
   by_cases hn:n=t
   ·have HV2:Hid (R=0):=Lib.hid (by rw [HV.out,ht]; simp only; rw [if_pos hn])
    have e1:(n != t)=false:=by simpa using hn
    have e3:(n == t)=true:=by simpa using hn
    clear ht HNE HV
    subst hn
    go_wp2_with fail
    go_ret
    exact ⟨by rw [HV2.out]; rfl,HB.out⟩
   ·have HV2:Hid (R=15):=Lib.hid (by rw [HV.out,ht]; simp only; rw [if_neg hn])
    have e1:(n != t)=true:=by simpa using hn
    have e3:(n == t)=false:=by simpa using hn
    clear ht HNE HV
    go_wp2_with fail
    go_ret
    exact ⟨by rw [HV2.out]; rfl,HB.out⟩
end Go.Proofs.YtmbffkemfepekaaGreatDoor
