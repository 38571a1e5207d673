/- nurseryref55.Order, walked. Conditions: rules and attributes lie in memory. -/
import Derived.Test.YtedpopbaipnamaaGreatDoorPoRf8
import Derived.Test.YtedpopbaipnamaaGreatDoorPoRfd
import Derived.Test.YtedpopbaipnamaaGreatDoorPoRff
import Derived.Test.YtedpopbaipnamaaGreatDoorPoGr2
namespace Go.Proofs.YtedpopbaipnamaaGreatDoor
open Go.RowKit
set_option maxRecDepth 100000 in
set_option maxHeartbeats 6400000 in
theorem refOrder_any (A:Option Addr) (c B:Nat) (rs:List Rl) (Al:Option Addr) (cl:Nat) (ls:List At) (w:World) (hP:LiesP w B A c rs) (hB:B≤w.heap.size) (hL:LiesA w B Al cl ls) (h12:ls.length≤12) :
  Calls Tryz.prog 10 #[.agg #[.slice A rs.length c],.slice Al ls.length cl] w (OrdS rs ls w):=by
 have HP:=Lib.hid hP
 have HL:=Lib.hid hL
 have hll:=hL.len
 have hO:=one_new w #[.slice A rs.length c] 24
 have HCK:Hid (∀ W,Below w.heap.size w W→Calls Tryz.prog 24 #[.agg #[.slice A rs.length c]] W (Ret (.int .i64 (chkP rs:Nat)) W)):=Lib.hid (fun W hW=>rpck_any A c B rs W (hP.below' hW hB) (Nat.le_trans hB hW.size))
 unfold Ret at HCK
 clear hP hL
 by_cases hck:chkP rs=0
 rotate_left
 ·have HN:=Lib.hid hck
  generalize hf:chkP rs=f at HCK hck
  have HF:=Lib.hid hf
  have e1:((f:Int) != 0)=true:=by simpa using hck
  have e2:(f != 0)=true:=by simpa using hck
  clear hck hf
  go_enter Tryz.func10,Tryz.ntmps10
  go_upto_region 1 with fail
  generalize w.alloc _=w1 at hO ⊢
  have x0:=hO.fst 0 _ rfl
  go_wp2_with fail
  refine (HCK.out _ hO.below).mono ?_
  rintro e w2 ⟨rfl,hb2⟩
  have HB:=Lib.hid (hO.below.trans (hb2.mono hO.below.size))
  clear x0 hb2 hO
  go_wp2_with fail
  go_ret2
  unfold OrdS
  exact ⟨HB.out.trans ((below_alloc _ _).mono HB.out.size),_,_,[],by unfold oF; rw [if_neg HN.out,HF.out]; rfl,⟨fun h=>absurd h.1 HN.out,fun _=>rfl⟩,rfl,.inl rfl⟩
 ·have HN:=Lib.hid hck
  rw [hck] at HCK
  clear hck
  go_enter Tryz.func10,Tryz.ntmps10
  go_upto_region 1 with fail
  generalize w.alloc _=w1 at hO ⊢
  have x0:=hO.fst 0 _ rfl
  go_wp2_with fail
  refine (HCK.out _ hO.below).mono ?_
  rintro e w2 ⟨rfl,hb2⟩
  clear x0
  replace hO:=hO.next hb2
  have HO:=Lib.hid hO
  clear hb2 hO
  go_wp2_with fail
  go_loopw [4,5,7] (fun r4 r5 i wr=>r4=.slice none 0 0∧r5=.int .i64 0∧∃ j:Nat,i=.int .i64 (j:Nat)∧j≤ls.length∧Hid (∀ q (h:q<ls.length),q<j→fits ls[q].vals=true)∧Hid (Below w2.heap.size w2 wr)) (fun _ _ i _=>ls.length - (intOf i).toNat)
  case atStart=>exact ⟨rfl,rfl,0,rfl,Nat.zero_le _,Lib.hid (fun q h h0=>by omega),Lib.hid (Below.refl _ _)⟩
  case round=>
   obtain ⟨rfl,rfl,j,rfl,hj,HFT,HB⟩:=hrel
   have hj0:(0:Int)≤(j:Int):=by omega
   have HBW:=Lib.hid (HO.out.next HB.out).below
   by_cases hlt:j<ls.length
   ·have hd1:decide ((j:Int)<(ls.length:Int))=true:=decide_eq_true (by omega)
    have hd2:decide (j<ls.length)=true:=decide_eq_true hlt
    have hjl:(j:Int)<(ls.length:Int):=by omega
    have hwr1:IntKind.i64.wrap ((j:Int)+1)=(j:Int)+1:=by rw [IntKind.wrap_i64]; omega
    obtain ⟨hvl,bl,ofl,Av,cv,rfl,hbl,hrb,l0,l1,l2⟩:=(HL.out.below' HBW.out hB).at_ j hlt
    have HQ:=Lib.hid (rvalid_any ls[j].task ls[j].case_ ls[j].vals Av cv B wr hrb (Nat.le_trans hB HBW.out.size) hvl)
    have HNX:Hid (fits ls[j].vals=true→∀ q (h:q<ls.length),q<j+1→fits ls[q].vals=true):=Lib.hid (fun hf q h h2=>by
     by_cases e:q=j
     ·subst e; exact hf
     ·exact HFT.out q h (by omega))
    have HNO:Hid (fits ls[j].vals=false→allFit ls=false):=Lib.hid (fun hfi=>List.all_eq_false.2 ⟨ls[j],List.getElem_mem hlt,by simp [hfi]⟩)
    unfold Ret at HQ
    generalize fits ls[j].vals=fv at HQ HNX HNO
    generalize ls[j].task=tj at l0 HQ
    generalize ls[j].case_=cj at l1 HQ
    generalize ls[j].vals.length=nj at l2 HQ
    clear hrb hvl
    cases fv with
    | true=>
     have HG:=Lib.hid (HNX.out rfl)
     clear HNO HNX
     go_wp2_with fail
     refine HQ.out.mono ?_
     rintro e W5 ⟨rfl,hb5⟩
     have HB5:=Lib.hid (HB.out.trans (hb5.mono HB.out.size))
     clear hb5 l0 l1 l2 HQ
     go_wp2_with fail
     exact ⟨⟨rfl,rfl,j+1,by go_num,by omega,HG,HB5⟩,by simp [intOf]; omega⟩
    | false=>
     have HG:=Lib.hid (HNO.out rfl)
     clear HNO HNX
     go_wp2_with fail
     refine HQ.out.mono ?_
     rintro e W5 ⟨rfl,hb5⟩
     have HB5:=Lib.hid (HBW.out.trans (hb5.mono HBW.out.size))
     clear hb5 l0 l1 l2 HQ
     go_wp2_with fail
     go_ret2
     unfold OrdS
     exact ⟨HB5.out.trans ((below_alloc _ _).mono HB5.out.size),_,_,[],by unfold oF; rw [if_pos HN.out,if_neg (by rw [HG.out]; simp)]; rfl,⟨fun h=>(by have:=h.2; rw [HG.out] at this; cases this),fun _=>rfl⟩,rfl,.inl rfl⟩
   ·have hd1:decide ((j:Int)<(ls.length:Int))=false:=decide_eq_false (by omega)
    have hd2:decide (j<ls.length)=false:=decide_eq_false hlt
    have HAF:Hid (allFit ls=true):=Lib.hid (List.all_eq_true.2 (fun a ha=>by
     obtain ⟨q,hq,rfl⟩:=List.getElem_of_mem ha
     exact HFT.out q hq (by omega)))
    have x0:=(HO.out.next HB.out).fst 0 _ rfl
    have HOF:=Lib.hid (rorder_any A c B rs Al cl ls wr (HP.out.below' HBW.out hB) (Nat.le_trans hB HBW.out.size) (HL.out.below' HBW.out hB) h12 (fun k hk=>fit_at HAF.out k hk))
    unfold OrfR at HOF
    go_wp2_with fail
    refine HOF.out.mono ?_
    rintro e W5 ⟨hb5,go,co,l,rfl,ho,hr⟩
    have HB5:=Lib.hid (HBW.out.trans (hb5.mono HBW.out.size))
    have HO5:=Lib.hid ho
    have HR5:=Lib.hid hr
    clear hb5 x0 HOF ho hr
    go_wp2_with fail
    go_ret2
    unfold OrdS
    exact ⟨HB5.out,_,_,l,by unfold oF; rw [if_pos HN.out,if_pos HAF.out,HO5.out.len]; rfl,⟨fun _=>HO5.out,fun h=>absurd ⟨HN.out,HAF.out⟩ h⟩,by rw [HO5.out.len]; exact HR5.out⟩
end Go.Proofs.YtedpopbaipnamaaGreatDoor

namespace Go.Proofs.YtedpopbaipnamaaGreatDoor
open Go.RowKit
set_option maxRecDepth 100000 in
set_option maxHeartbeats 12800000 in
theorem porder_any (A:Option Addr) (c B:Nat) (rs:List Rl) (Al:Option Addr) (cl:Nat) (ls:List At) (w:World) (hP:LiesP w B A c rs) (hB:B≤w.heap.size) (hL:LiesA w B Al cl ls)
  (hAW:∀ W,Below w.heap.size w W→Calls Tryz.prog 8 #[] W (Ret (.bool true) W)) :
  Calls Tryz.prog 3 #[.agg #[.slice A rs.length c],.slice Al ls.length cl] w (Ret (.bool true) w):=by
 have hll:=hL.len
 have hrl:=hP.len
 have HGR:=Lib.hid (fun (W:World) (hW:Below w.heap.size w W)=>great_any A c B rs W (hP.below' hW hB) (Nat.le_trans hB hW.size))
 have HCT:=Lib.hid (fun (W:World) (hW:Below w.heap.size w W)=>contA_any Al cl B ls W (hL.below' hW hB) (Nat.le_trans hB hW.size))
 have HP0:=Lib.hid (fun (W:World) (hW:Below w.heap.size w W)=>hP.below' hW hB)
 have HL0:=Lib.hid (fun (W:World) (hW:Below w.heap.size w W)=>hL.below' hW hB)
 have HAW:=Lib.hid hAW
 have hO:=one_new w #[.slice A rs.length c] 24
 unfold Ret at HGR HAW
 unfold AnyB at HCT
 unfold Ret
 clear hP hL hAW
 go_enter Tryz.func3,Tryz.ntmps3
 go_upto_region 1 with fail
 generalize w.alloc _=w1 at hO ⊢
 have x0:=hO.fst 0 _ rfl
 cases hg:grtP rs with
 | true=>
  rw [hg] at HGR
  clear hg
  go_wp2_with fail
  refine (HGR.out _ hO.below).mono ?_
  rintro e w2 ⟨rfl,hb2⟩
  clear x0
  replace hO:=hO.next hb2
  clear hb2
  have HB:=Lib.hid hO.below
  clear hO
  go_wp2_with fail
  refine (HAW.out _ HB.out).mono ?_
  rintro e w9 ⟨rfl,hb9⟩
  have HB9:=Lib.hid (HB.out.trans (hb9.mono HB.out.size))
  clear hb9
  go_wp2_with fail
  go_ret
  exact ⟨rfl,HB9.out⟩
 | false=>
  rw [hg] at HGR
  clear hg
  by_cases h12:12<ls.length
  ·have d1:decide ((ls.length:Int) > 12)=true:=decide_eq_true (by omega)
   have d2:decide (12<(ls.length:Int))=true:=decide_eq_true (by omega)
   have d3:decide (12<ls.length)=true:=decide_eq_true h12
   clear h12
   go_wp2_with fail
   refine (HGR.out _ hO.below).mono ?_
   rintro e w2 ⟨rfl,hb2⟩
   clear x0
   replace hO:=hO.next hb2
   clear hb2
   have HB:=Lib.hid hO.below
   clear hO
   go_wp2_with fail
   refine (HAW.out _ HB.out).mono ?_
   rintro e w9 ⟨rfl,hb9⟩
   have HB9:=Lib.hid (HB.out.trans (hb9.mono HB.out.size))
   clear hb9
   go_wp2_with fail
   go_ret
   exact ⟨rfl,HB9.out⟩
  ·have d1:decide ((ls.length:Int) > 12)=false:=decide_eq_false (by omega)
   have d2:decide (12<(ls.length:Int))=false:=decide_eq_false (by omega)
   have d3:decide (12<ls.length)=false:=decide_eq_false h12
   have H12:=Lib.hid (show ls.length≤12 by omega)
   clear h12
   go_wp2_with fail
   refine (HGR.out _ hO.below).mono ?_
   rintro e w2 ⟨rfl,hb2⟩
   clear x0
   replace hO:=hO.next hb2
   clear hb2
   have HCT2:=Lib.hid (HCT.out w2 hO.below)
   go_wp2_with fail
   refine HCT2.out.mono ?_
   rintro e w3 ⟨v,rfl,hb3⟩
   replace hO:=hO.next hb3
   clear hb3 HCT2 HCT HGR d1 d2 d3
   cases v with
   | true=>
    have HB:=Lib.hid hO.below
    clear hO
    go_wp2_with fail
    refine (HAW.out _ HB.out).mono ?_
    rintro e w9 ⟨rfl,hb9⟩
    have HB9:=Lib.hid (HB.out.trans (hb9.mono HB.out.size))
    clear hb9
    go_wp2_with fail
    go_ret
    exact ⟨rfl,HB9.out⟩
   | false=>
    have x0:=hO.fst 0 _ rfl
    go_wp2_with fail
    refine (order_any A c B rs Al cl ls w3 (HP0.out _ hO.below) (Nat.le_trans hB hO.below.size) (HL0.out _ hO.below) H12.out).mono ?_
    rintro e w4 h4
    obtain ⟨hb4,A1,c1,l1,rfl,hQ1,hR1⟩:=ordR_s h4
    clear h4 x0
    replace hO:=hO.next hb4
    clear hb4
    have x0:=hO.fst 0 _ rfl
    have HQ1:=Lib.hid hQ1
    have HR1:=Lib.hid hR1
    have HL1:=Lib.hid hQ1.len
    generalize hln:l1.length=n1 at HL1 hR1 ⊢
    have HLN:=Lib.hid hln
    clear hQ1 hR1 hln
    go_wp2_with fail
    refine (refOrder_any A c B rs Al cl ls w4 (HP0.out _ hO.below) (Nat.le_trans hB hO.below.size) (HL0.out _ hO.below) H12.out).mono ?_
    rintro e w5 ⟨hb5,A2,c2,l2,rfl,hQ2,hR2⟩
    obtain rfl:l1=l2:=HQ1.out.unique hQ2
    rw [HLN.out] at hR2 ⊢
    have HR1b:=HR1.out
    rw [HLN.out] at HR1b
    have HR1c:=Rd.below' HR1b hb5 (Nat.le_refl _)
    replace hO:=hO.next hb5
    have HE:=Lib.hid (eq_n A1 A2 c1 c2 _ _ n1 l1 w5 HLN.out.symm HR1c hR2 (by have:=HL1.out; have:=H12.out; omega))
    have HB5:=Lib.hid hO.below
    unfold Ret at HE
    clear x0 hO hb5 hQ2 hR2 HR1b HR1c
    generalize oF rs ls=f
    go_wp2_with fail
    refine HE.out.mono ?_
    rintro e w6 ⟨rfl,hb6⟩
    have HB6:=Lib.hid (HB5.out.trans (hb6.mono HB5.out.size))
    clear hb6 HE
    go_wp2_with fail
    refine (HAW.out _ HB6.out).mono ?_
    rintro e w9 ⟨rfl,hb9⟩
    have HB9:=Lib.hid (HB6.out.trans (hb9.mono HB6.out.size))
    clear hb9
    go_wp2_with fail
    go_ret
    exact ⟨rfl,HB9.out⟩
end Go.Proofs.YtedpopbaipnamaaGreatDoor
