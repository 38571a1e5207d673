/- The reference lexer: one, walked: a number. Conditions: the place lies in the text, before its end. -/
import Derived.Test.YtmbffkemfepekaaGreatDoorPtTr
import Derived.Test.YtmbffkemfepekaaGreatDoorPtLx2
import Derived.Deep.CutBlock
import Derived.Deep.CutRange
import Derived.Deep.DeepCutAuto
import Derived.Test.YtmbffkemfepekaaGreatDoorPtAwk
namespace Go.Proofs.YtmbffkemfepekaaGreatDoor
open Go.RowKit
theorem run_end (p:UInt8→Bool):∀ l:List UInt8,∀ c r,l.drop (runN p l)=c::r→p c=false
 | [],c,r,h=>by simp [runN] at h
 | a::l,c,r,h=>by
  rw [runN] at h
  by_cases ha:p a=true
  ·rw [if_pos ha,List.drop_succ_cons] at h
   exact run_end p l c r h
  ·rw [if_neg ha,List.drop_zero] at h
   injection h with h1 h2
   subst h1
   simpa using ha
set_option maxRecDepth 100000 in
set_option maxHeartbeats 12800000 in
theorem rone_num (s:ByteArray) (i:Nat) (hi:i<s.size) (hs:s.size≤140737488355328) (w:World) (hl:letB s[i]=false) (hd:digB s[i]=true):Calls Tryz.prog 52 #[.string s,.int .i64 (i:Nat)] w (Ret (tokV s i (numT (s.data.toList.drop i))) w):=by
 have HL:=Lib.hid (fun W=>rltr_any s[i] W)
 rw [hl] at HL
 have HD:=Lib.hid (fun W=>rdig_any s[i] W)
 rw [hd] at HD
 have hle:=runN_le digB (s.data.toList.drop i)
 rw [List.length_drop,Array.length_toList] at hle
 have hsz:s.size=s.data.size:=rfl
 have hX:=ext_sub s i (runN digB (s.data.toList.drop i))
 have HRA:=Lib.hid (run_all digB (s.data.toList.drop i))
 have HEN:=Lib.hid (run_end digB (s.data.toList.drop i))
 have HR:Hid (numT (s.data.toList.drop i)=if badN (s.data.toList.drop i) then .er 3 else if 1099511627776<numV ((s.data.toList.drop i).take (runN digB (s.data.toList.drop i))) then .er 2 else .ok 2 (runN digB (s.data.toList.drop i)) (numV ((s.data.toList.drop i).take (runN digB (s.data.toList.drop i))))):=Lib.hid rfl
 have HBN:Hid (badN (s.data.toList.drop i)=((decide (1<runN digB (s.data.toList.drop i)) && (match s.data.toList.drop i with | []=>false | c::_=>c.toNat == 48)) || (match (s.data.toList.drop i).drop (runN digB (s.data.toList.drop i)) with | []=>false | c::_=>letB c || c.toNat == 95))):=Lib.hid rfl
 generalize numT (s.data.toList.drop i)=R at HR ⊢
 obtain ⟨k,hk⟩:∃ k,k=i+runN digB (s.data.toList.drop i):=⟨_,rfl⟩
 have HK:=Lib.hid hk
 generalize runN digB (s.data.toList.drop i)=r at hle hX HR HBN HRA HEN hk
 rw [← hk] at hX
 have HDK:Hid ((s.data.toList.drop i).drop r=s.data.toList.drop k):=Lib.hid (by rw [List.drop_drop,hk])
 rw [HDK.out] at HBN HEN
 obtain ⟨tx,htx⟩:∃ tx,tx=s.extract i k:=⟨_,rfl⟩
 have HTL:Hid (tx.data.toList=(s.data.toList.drop i).take r):=Lib.hid (by rw [htx,Lib.extract_data,show k - i=r from by omega])
 have HTS:Hid (tx.size=r):=Lib.hid (by
  have h1:tx.size=tx.data.toList.length:=by rw [Array.length_toList]; rfl
  rw [h1,HTL.out,List.length_take,List.length_drop,Array.length_toList]; omega)
 have HX:Hid (subB s i r=tx):=Lib.hid (by rw [htx,hX])
 have hsl:∀ W,(Instr.slice 9 (.string s) (some (.int .i64 (i:Nat))) (some (.int .i64 (k:Nat))) none).run Tryz.prog W=.ok (.string tx) W:=fun W=>by rw [htx]; exact str_slice s i k (by omega) (by omega) W
 have HDG:Hid (∀ (j:Nat) (h:j<tx.size),48≤(tx[j]'h).toNat∧(tx[j]'h).toNat≤57):=Lib.hid (fun j h=>by
  have h1:=List.mem_of_getElem? (get_list tx j h)
  rw [HTL.out] at h1
  have h2:=HRA.out _ h1
  unfold digB at h2
  simpa using h2)
 rw [← HTL.out] at HR
 have HHD:Hid ((match s.data.toList.drop i with | []=>false | c::_=>c.toNat == 48)=((s[i]'hi).toNat == 48)):=Lib.hid (by rw [run_at s i hi])
 have HNO:Hid (¬ k<s.size→(match s.data.toList.drop k with | []=>false | c::_=>letB c || c.toNat == 95)=false):=Lib.hid (fun h=>by rw [List.drop_of_length_le (by rw [Array.length_toList]; omega)])
 have HYS:Hid (∀ h:k<s.size,(match s.data.toList.drop k with | []=>false | c::_=>letB c || c.toNat == 95)=inB (s[k]'h)):=Lib.hid (fun h=>by
  have h1:=HEN.out _ _ (run_at s k h)
  rw [run_at s k h]
  show (letB (s[k]'h) || (s[k]'h).toNat == 95)=(letB (s[k]'h) || digB (s[k]'h) || (s[k]'h).toNat == 95)
  rw [h1,Bool.or_false])
 have hkz:k≤s.size:=by omega
 have hw:IntKind.i64.wrap ((k:Int) - (i:Int))=(k:Int) - (i:Int):=by rw [IntKind.wrap_i64]; omega
 have htz:tx.size≤140737488355328:=by have:=HTS.out; omega
 have HNM:=Lib.hid (fun W=>rnum_any tx htz HDG.out W)
 have HGT:=Lib.hid (numG_gt tx.data.toList)
 have HGE:=Lib.hid (numG_eq tx.data.toList)
 unfold RetP at HL HD HNM
 unfold Ret
 generalize badN (s.data.toList.drop i)=BN at HR HBN
 have hi0:(0:Int)≤(i:Int):=by omega
 have his:(i:Int)<(s.size:Int):=by omega
 have hO:=one_new w #[.int .i64 0,.string ⟨#[]⟩,.int .i64 0,.int .i64 0] 69
 have hF:∀ j,(w.alloc (.cells #[.int .i64 0,.string ⟨#[]⟩,.int .i64 0,.int .i64 0] 69)).frozen? ⟨w.heap.size,j,none⟩=false:=fun j=>by simp
 clear hX hl hd htx hle hsz htz
 go_enter Tryz.func52,Tryz.ntmps52
 go_upto_region 1 with fail
 generalize w.alloc _=w1 at hO hF ⊢
 have HO:=Lib.hid hO
 have HF:=Lib.hid hF
 clear hO hF
 go_upto_block 2 with (first | (go_at_call 83; refine (HL.out _).mono ?_; rintro e W5 ⟨rfl,hw⟩; obtain rfl:w1=W5:=hw.symm) | (go_at_call 85; refine (HD.out _).mono ?_; rintro e W5 ⟨rfl,hw⟩; obtain rfl:w1=W5:=hw.symm))
 go_cut [6] (fun kv wx=>kv=.int .i64 (k:Nat)∧wx=w1)
 case first=>
  go_wp2_with fail
  go_loopw [6] (fun kv wr=>wr=w1∧∃ q:Nat,kv=.int .i64 (q:Nat)∧q≤s.size∧Hid (k=q+runN digB (s.data.toList.drop q))) (fun kv _=>s.size - (intOf kv).toNat)
  case atStart=>exact ⟨rfl,i,rfl,by omega,HK⟩
  case round=>
   obtain ⟨rfl,q,rfl,hq,HQ⟩:=hrel
   have hq0:(0:Int)≤(q:Int):=by omega
   have hwr1:IntKind.i64.wrap ((q:Int)+1)=(q:Int)+1:=by rw [IntKind.wrap_i64]; omega
   by_cases hlt:q<s.size
   ·have hd1:decide ((q:Int)<(s.size:Int))=true:=decide_eq_true (by omega)
    have hd2:decide (q<s.size)=true:=decide_eq_true hlt
    have hql:(q:Int)<(s.size:Int):=by omega
    have HP:=Lib.hid (fun W=>rdig_any s[q] W)
    have HRN:Hid (k=q+(if digB s[q] then runN digB (s.data.toList.drop (q+1))+1 else 0)):=Lib.hid (by rw [HQ.out,run_at s q hlt,runN])
    unfold RetP at HP
    generalize digB s[q]=b at HP HRN
    clear HQ
    cases b with
    | true=>
     have HR2:Hid (k=(q+1)+runN digB (s.data.toList.drop (q+1))):=Lib.hid (by rw [HRN.out,if_pos rfl]; omega)
     clear HRN
     go_wp2_with fail
     refine (HP.out _).mono ?_
     rintro e W5 ⟨rfl,hw⟩
     obtain rfl:wr=W5:=hw.symm
     go_wp2_with fail
     exact ⟨⟨by first | rfl | exact True.intro,q+1,by go_num,by omega,HR2⟩,by simp [intOf]; omega⟩
    | false=>
     have HR2:Hid (k=q):=Lib.hid (by rw [HRN.out]; simp)
     clear HRN
     go_wp2_with fail
     refine (HP.out _).mono ?_
     rintro e W5 ⟨rfl,hw⟩
     obtain rfl:wr=W5:=hw.symm
     go_wp2_with fail
     go_meet
     case rel=>exact ⟨by rw [HR2.out],rfl⟩
   ·have hd1:decide ((q:Int)<(s.size:Int))=false:=decide_eq_false (by omega)
    have hd2:decide (q<s.size)=false:=decide_eq_false hlt
    have HR2:Hid (k=q):=Lib.hid (by rw [HQ.out,List.drop_of_length_le (by rw [Array.length_toList]; show s.size≤q; omega)]; rfl)
    clear HQ
    go_wp2_with fail
    go_meet
    case rel=>exact ⟨by rw [HR2.out],rfl⟩
 case rest=>
  obtain ⟨rfl,hwc⟩:=hcut
  obtain rfl:=hwc.symm
  go_upto_region 11 with fail
  go_cut [74] (fun b74 wx=>b74=.bool BN∧wx=w1)
  case first=>
   by_cases h1r:1<r
   ·have a1:decide ((k:Int) - (i:Int) > 1)=true:=decide_eq_true (by omega)
    have a2:decide (1<(k:Int) - (i:Int))=true:=decide_eq_true (by omega)
    by_cases h48:((s[i]'hi).toNat)=48
    ·have b1:((((s[i]'hi).toNat):Int) == 48)=true:=by simpa using (by omega:(((s[i]'hi).toNat):Int)=48)
     have b2:(((s[i]'hi).toNat) == 48)=true:=by simpa using h48
     have HV:Hid (BN=true):=Lib.hid (by rw [HBN.out,HHD.out,b2,decide_eq_true h1r]; rfl)
     clear h48 h1r HBN hk
     go_wp2_with fail
     go_meet
     case rel=>exact ⟨by rw [HV.out],rfl⟩
    ·have b1:((((s[i]'hi).toNat):Int) == 48)=false:=by simpa using (by omega:¬ (((s[i]'hi).toNat):Int)=48)
     have b2:(((s[i]'hi).toNat) == 48)=false:=by simpa using h48
     have HZ:Hid ((decide (1<r) && (match s.data.toList.drop i with | []=>false | c::_=>c.toNat == 48))=false):=Lib.hid (by rw [HHD.out,b2]; simp)
     clear h48 h1r hk
     by_cases hkl:k<s.size
     rotate_left
     ·have k1:decide ((k:Int)<(s.size:Int))=false:=decide_eq_false (by omega)
      have k2:decide (k<s.size)=false:=decide_eq_false hkl
      have HNK:=Lib.hid (HNO.out hkl)
      have HV:Hid (BN=false):=Lib.hid (by rw [HBN.out,HZ.out,HNK.out]; rfl)
      clear HBN
      go_wp2_with fail
      go_meet
      case rel=>exact ⟨by rw [HV.out],rfl⟩
     ·have k1:decide ((k:Int)<(s.size:Int))=true:=decide_eq_true (by omega)
      have k2:decide (k<s.size)=true:=decide_eq_true hkl
      have k3:(k:Int)<(s.size:Int):=by omega
      have k0:(0:Int)≤(k:Int):=by omega
      have HYK:=Lib.hid (HYS.out hkl)
      have HIN:=Lib.hid (fun W=>rin_any (s[k]'hkl) W)
      unfold RetP at HIN
      have HV0:Hid (BN=inB (s[k]'hkl)):=Lib.hid (by rw [HBN.out,HZ.out,HYK.out]; rfl)
      generalize inB (s[k]'hkl)=ib at HIN HV0 HYK
      clear HBN
      have HV:Hid (BN=ib):=Lib.hid HV0.out
      go_wp2_with fail
      refine (HIN.out _).mono ?_
      rintro e W5 ⟨rfl,hw⟩
      obtain rfl:w1=W5:=hw.symm
      cases ib with
      | true=>
       go_wp2_with fail
       go_meet
       case rel=>exact ⟨by rw [HV.out],rfl⟩
      | false=>
       go_wp2_with fail
       go_meet
       case rel=>exact ⟨by rw [HV.out],rfl⟩
   ·have a1:decide ((k:Int) - (i:Int) > 1)=false:=decide_eq_false (by omega)
    have a2:decide (1<(k:Int) - (i:Int))=false:=decide_eq_false (by omega)
    have HZ:Hid ((decide (1<r) && (match s.data.toList.drop i with | []=>false | c::_=>c.toNat == 48))=false):=Lib.hid (by rw [decide_eq_false h1r]; rfl)
    clear h1r hk
    by_cases hkl:k<s.size
    rotate_left
    ·have k1:decide ((k:Int)<(s.size:Int))=false:=decide_eq_false (by omega)
     have k2:decide (k<s.size)=false:=decide_eq_false hkl
     have HNK:=Lib.hid (HNO.out hkl)
     have HV:Hid (BN=false):=Lib.hid (by rw [HBN.out,HZ.out,HNK.out]; rfl)
     clear HBN
     go_wp2_with fail
     go_meet
     case rel=>exact ⟨by rw [HV.out],rfl⟩
    ·have k1:decide ((k:Int)<(s.size:Int))=true:=decide_eq_true (by omega)
     have k2:decide (k<s.size)=true:=decide_eq_true hkl
     have k3:(k:Int)<(s.size:Int):=by omega
     have k0:(0:Int)≤(k:Int):=by omega
     have HYK:=Lib.hid (HYS.out hkl)
     have HIN:=Lib.hid (fun W=>rin_any (s[k]'hkl) W)
     unfold RetP at HIN
     have HV0:Hid (BN=inB (s[k]'hkl)):=Lib.hid (by rw [HBN.out,HZ.out,HYK.out]; rfl)
     generalize inB (s[k]'hkl)=ib at HIN HV0 HYK
     clear HBN
     have HV:Hid (BN=ib):=Lib.hid HV0.out
     go_wp2_with fail
     refine (HIN.out _).mono ?_
     rintro e W5 ⟨rfl,hw⟩
     obtain rfl:w1=W5:=hw.symm
     cases ib with
     | true=>
      go_wp2_with fail
      go_meet
      case rel=>exact ⟨by rw [HV.out],rfl⟩
     | false=>
      go_wp2_with fail
      go_meet
      case rel=>exact ⟨by rw [HV.out],rfl⟩
  case rest=>
   obtain ⟨rfl,hwc⟩:=hcut
   obtain rfl:=hwc.symm
   clear hk
   obtain ⟨d0,d1,d2,d3⟩:=bx4 HO.out.fst
   have f0:=HF.out 0
   have f1:=HF.out 1
   have f2:=HF.out 2
   have f3:=HF.out 3
   cases BN with
   | true=>
    have HV:Hid (R=.er 3):=Lib.hid (by rw [HR.out]; rfl)
    go_wp2_with fail
    obtain ⟨q0,q1,q2,q3⟩:=set4 (HO.out.fst 0 _ rfl) (HO.out.fst 1 _ rfl) (HO.out.fst 2 _ rfl) (HO.out.fst 3 _ rfl) (.int .i64 0) (.string ⟨#[]⟩) (.int .i64 0) (.int .i64 0)
    have hby:=set4_below HO.out.below (Nat.le_refl _) (.int .i64 0) (.string ⟨#[]⟩) (.int .i64 0) (.int .i64 0)
    generalize World.setCell _ _ _=w6 at q0 q1 q2 q3 hby ⊢
    refine bodyPost_ret (v:=.tuple #[.agg #[.int .i64 0,.string ⟨#[]⟩,.int .i64 0,.int .i64 0],.int .i64 3]) (by rw [results_cell_tmp rfl]; go_simp) rfl ⟨by rw [HV.out]; rfl,hby⟩
   | false=>
    have HGD:Hid (R=if 1099511627776<numV tx.data.toList then .er 2 else .ok 2 r (numV tx.data.toList)):=Lib.hid (by rw [HR.out]; rfl)
    generalize numG tx.data.toList 0=g at HNM HGT HGE
    by_cases hb:1099511627776<g
    ·have g1:decide ((g:Int) > 1099511627776)=true:=decide_eq_true (by omega)
     have g2:decide (1099511627776<(g:Int))=true:=decide_eq_true (by omega)
     have HV:Hid (R=.er 2):=Lib.hid (by rw [HGD.out,if_pos (HGT.out.2 hb)])
     clear hb
     go_wp2_with fail
     refine (HNM.out _).mono ?_
     rintro e W5 ⟨rfl,hw⟩
     obtain rfl:w1=W5:=hw.symm
     go_wp2_with fail
     obtain ⟨q0,q1,q2,q3⟩:=set4 (HO.out.fst 0 _ rfl) (HO.out.fst 1 _ rfl) (HO.out.fst 2 _ rfl) (HO.out.fst 3 _ rfl) (.int .i64 0) (.string ⟨#[]⟩) (.int .i64 0) (.int .i64 0)
     have hby:=set4_below HO.out.below (Nat.le_refl _) (.int .i64 0) (.string ⟨#[]⟩) (.int .i64 0) (.int .i64 0)
     generalize World.setCell _ _ _=w6 at q0 q1 q2 q3 hby ⊢
     refine bodyPost_ret (v:=.tuple #[.agg #[.int .i64 0,.string ⟨#[]⟩,.int .i64 0,.int .i64 0],.int .i64 2]) (by rw [results_cell_tmp rfl]; go_simp) rfl ⟨by rw [HV.out]; rfl,hby⟩
    ·have g1:decide ((g:Int) > 1099511627776)=false:=decide_eq_false (by omega)
     have g2:decide (1099511627776<(g:Int))=false:=decide_eq_false (by omega)
     have HN0:Hid (¬ 1099511627776<numV tx.data.toList):=Lib.hid (fun h=>hb (HGT.out.1 h))
     have HV:Hid (R=.ok 2 r g):=Lib.hid (by rw [HGD.out,if_neg HN0.out,HGE.out HN0.out])
     have HTX:Hid (tokV s i (.ok 2 r g)=.tuple #[.agg #[.int .i64 2,.string tx,.int .i64 (g:Nat),.int .i64 (i:Nat)],.int .i64 0]):=Lib.hid (by show Value.tuple #[.agg #[.int .i64 2,.string (subB s i r),.int .i64 (g:Nat),.int .i64 (i:Nat)],.int .i64 0]=_; rw [HX.out])
     clear hb
     go_wp2_with fail
     refine (HNM.out _).mono ?_
     rintro e W5 ⟨rfl,hw⟩
     obtain rfl:w1=W5:=hw.symm
     go_wp2_with fail
     obtain ⟨q0,q1,q2,q3⟩:=set4 (HO.out.fst 0 _ rfl) (HO.out.fst 1 _ rfl) (HO.out.fst 2 _ rfl) (HO.out.fst 3 _ rfl) (.int .i64 2) (.string tx) (.int .i64 (g:Nat)) (.int .i64 (i:Nat))
     have hby:=set4_below HO.out.below (Nat.le_refl _) (.int .i64 2) (.string tx) (.int .i64 (g:Nat)) (.int .i64 (i:Nat))
     generalize World.setCell _ _ _=w6 at q0 q1 q2 q3 hby ⊢
     refine bodyPost_ret (v:=.tuple #[.agg #[.int .i64 2,.string tx,.int .i64 (g:Nat),.int .i64 (i:Nat)],.int .i64 0]) (by rw [results_cell_tmp rfl]; go_simp) rfl ⟨by rw [HV.out,HTX.out],hby⟩
end Go.Proofs.YtmbffkemfepekaaGreatDoor

namespace Go.Proofs.YtmbffkemfepekaaGreatDoor
open Go.RowKit
theorem sgG_le:∀ (L:List (List UInt8)) (l:List UInt8),sgG L l≤l.length
 | [],l=>by simp [sgG]
 | g::r,l=>by
  rw [sgG]
  split
  ·next h=>have:=congrArg List.length h; rw [List.length_take] at this; omega
  ·exact sgG_le r l
theorem sgG_dbl:∀ (A B:List (List UInt8)) (l:List UInt8),(∀ g∈A,g.length=2)→sgG (A++B) l=if A.contains (l.take 2) then 2 else sgG B l
 | [],B,l,_=>by simp
 | g::r,B,l,h=>by
  have hg:=h g (by simp)
  rw [List.cons_append,sgG,hg,sgG_dbl r B l (fun x hx=>h x (by simp [hx])),List.contains_cons]
  by_cases e:l.take 2=g
  ·rw [if_pos e,show (l.take 2 == g)=true by simpa using e]; rfl
  ·rw [if_neg e,show (l.take 2 == g)=false by simpa using e]; rfl
theorem sgG_one:∀ (B:List UInt8) (l:List UInt8),sgG (B.map fun c=>[c]) l=if (match l with | []=>false | c::_=>B.contains c) then 1 else 0
 | [],l=>by cases l <;> simp [sgG]
 | b::r,l=>by
  rw [List.map_cons,sgG,sgG_one r l]
  cases l with
  | nil=>simp
  | cons c q=>
   simp only [List.length_cons,List.length_nil,List.take_succ_cons,List.take_zero,List.contains_cons]
   by_cases e:c=b
   ·subst e; simp
   ·simp [e]
theorem sig_eq (l:List UInt8):signT l=if sgN l=0 then .er 3 else .ok 3 (sgN l) 0:=by
 unfold sgN sgL signT
 rw [sgG_dbl _ _ _ (by decide),sgG_one]
 split
 ·rfl
 ·cases l with
  | nil=>rfl
  | cons c q=>
   show (if sglS.contains c=true then TkR.ok 3 1 0 else .er 3)=if (if sglS.contains c=true then 1 else 0)=0 then .er 3 else .ok 3 (if sglS.contains c=true then 1 else 0) 0
   by_cases hc:sglS.contains c=true
   ·simp only [if_pos hc]; rfl
   ·simp only [if_neg hc]; rfl
set_option maxRecDepth 100000 in
set_option maxHeartbeats 6400000 in
theorem rone_sig (s:ByteArray) (i:Nat) (hi:i<s.size) (hs:s.size≤140737488355328) (w:World) (hl:letB s[i]=false) (hd:digB s[i]=false):Calls Tryz.prog 52 #[.string s,.int .i64 (i:Nat)] w (Ret (tokV s i (signT (s.data.toList.drop i))) w):=by
 have HL:=Lib.hid (fun W=>rltr_any s[i] W)
 rw [hl] at HL
 have HD:=Lib.hid (fun W=>rdig_any s[i] W)
 rw [hd] at HD
 have HR:=Lib.hid (sig_eq (s.data.toList.drop i))
 have hle:=sgG_le sgL (s.data.toList.drop i)
 rw [List.length_drop,Array.length_toList] at hle
 have hsz:s.size=s.data.size:=rfl
 obtain ⟨sx,hsx⟩:∃ sx,sx=s.extract i s.size:=⟨_,rfl⟩
 have hsl:=fun W=>str_from s i (by omega) W
 rw [← hsx] at hsl
 have HS:=Lib.hid (fun W=>rsign_any sx W)
 have hdr:sx.data.toList=s.data.toList.drop i:=by rw [hsx,ext_drop]
 rw [hdr] at HS
 change sgN (s.data.toList.drop i)≤_ at hle
 have hX:=ext_sub s i (sgN (s.data.toList.drop i))
 generalize signT (s.data.toList.drop i)=R at HR ⊢
 generalize sgN (s.data.toList.drop i)=n at HS HR hle hX
 obtain ⟨k,hk⟩:∃ k,k=i+n:=⟨_,rfl⟩
 rw [← hk] at hX
 have HX:=Lib.hid hX
 have hwk:IntKind.i64.wrap ((i:Int)+(n:Int))=(k:Int):=by rw [IntKind.wrap_i64]; omega
 have hik:(i:Int)≤(k:Int):=by omega
 have hks:(k:Int)≤(s.size:Int):=by omega
 have hsl2:=fun W=>str_slice s i k (by omega) (by omega) W
 unfold RetP at HL HD
 unfold Ret at HS
 unfold Ret
 have hi0:(0:Int)≤(i:Int):=by omega
 have his:(i:Int)<(s.size:Int):=by omega
 have hO:=one_new w #[.int .i64 0,.string ⟨#[]⟩,.int .i64 0,.int .i64 0] 69
 have hF:∀ j,(w.alloc (.cells #[.int .i64 0,.string ⟨#[]⟩,.int .i64 0,.int .i64 0] 69)).frozen? ⟨w.heap.size,j,none⟩=false:=fun j=>by simp
 clear hX hl hd hle hsz hsx hdr hk
 go_enter Tryz.func52,Tryz.ntmps52
 go_upto_region 1 with fail
 generalize w.alloc _=w1 at hO hF ⊢
 have HO:=Lib.hid hO
 have HF:=Lib.hid hF
 clear hO hF
 go_wp2_with (first | (go_at_call 83; refine (HL.out _).mono ?_; rintro e W5 ⟨rfl,hw⟩; obtain rfl:w1=W5:=hw.symm) | (go_at_call 85; refine (HD.out _).mono ?_; rintro e W5 ⟨rfl,hw⟩; obtain rfl:w1=W5:=hw.symm))
 refine (HS.out _).mono ?_
 rintro e w2 ⟨rfl,hb2⟩
 have HO2:=Lib.hid (HO.out.next hb2)
 have HF2:Hid (∀ j,w2.frozen? ⟨w.heap.size,j,none⟩=false):=Lib.hid (fun j=>(hb2.frozen (p:=⟨w.heap.size,j,none⟩) (by show w.heap.size<w1.heap.size; have:=HO.out.size; omega)).trans (HF.out j))
 clear hb2
 obtain ⟨d0,d1,d2,d3⟩:=bx4 HO2.out.fst
 have f0:=HF2.out 0
 have f1:=HF2.out 1
 have f2:=HF2.out 2
 have f3:=HF2.out 3
 by_cases h0:n=0
 ·have e1:((n:Int) == 0)=true:=by simpa using (by omega:(n:Int)=0)
  have e2:(n == 0)=true:=by simpa using h0
  have HV:Hid (R=.er 3):=Lib.hid (by rw [HR.out,if_pos h0])
  have h0i:(n:Int)=0:=by omega
  clear h0 HR h0i
  go_wp2_with fail
  obtain ⟨q0,q1,q2,q3⟩:=set4 (HO2.out.fst 0 _ rfl) (HO2.out.fst 1 _ rfl) (HO2.out.fst 2 _ rfl) (HO2.out.fst 3 _ rfl) (.int .i64 0) (.string ⟨#[]⟩) (.int .i64 0) (.int .i64 0)
  have hby:=set4_below HO2.out.below (Nat.le_refl _) (.int .i64 0) (.string ⟨#[]⟩) (.int .i64 0) (.int .i64 0)
  generalize World.setCell _ _ _=w6 at q0 q1 q2 q3 hby ⊢
  refine bodyPost_ret (v:=.tuple #[.agg #[.int .i64 0,.string ⟨#[]⟩,.int .i64 0,.int .i64 0],.int .i64 3]) (by rw [results_cell_tmp rfl]; go_simp) rfl ⟨by rw [HV.out]; rfl,hby⟩
 ·have e1:((n:Int) == 0)=false:=by simpa using (by omega:¬ (n:Int)=0)
  have e2:(n == 0)=false:=by simpa using h0
  have HV:Hid (R=.ok 3 n 0):=Lib.hid (by rw [HR.out,if_neg h0])
  have HTX:Hid (tokV s i (.ok 3 n 0)=.tuple #[.agg #[.int .i64 3,.string (s.extract i k),.int .i64 0,.int .i64 (i:Nat)],.int .i64 0]):=Lib.hid (by unfold tokV; rw [HX.out]; rfl)
  have h0i:¬ (n:Int)=0:=by omega
  clear HR
  go_wp2_with fail
  obtain ⟨q0,q1,q2,q3⟩:=set4 (HO2.out.fst 0 _ rfl) (HO2.out.fst 1 _ rfl) (HO2.out.fst 2 _ rfl) (HO2.out.fst 3 _ rfl) (.int .i64 3) (.string (s.extract i k)) (.int .i64 0) (.int .i64 (i:Nat))
  have hby:=set4_below HO2.out.below (Nat.le_refl _) (.int .i64 3) (.string (s.extract i k)) (.int .i64 0) (.int .i64 (i:Nat))
  generalize World.setCell _ _ _=w6 at q0 q1 q2 q3 hby ⊢
  refine bodyPost_ret (v:=.tuple #[.agg #[.int .i64 3,.string (s.extract i k),.int .i64 0,.int .i64 (i:Nat)],.int .i64 0]) (by rw [results_cell_tmp rfl]; go_simp) rfl ⟨by rw [HV.out,HTX.out],hby⟩
/-- A token where one begins. -/
theorem rone_any (s:ByteArray) (i:Nat) (hi:i<s.size) (hs:s.size≤140737488355328) (w:World):Calls Tryz.prog 52 #[.string s,.int .i64 (i:Nat)] w (Ret (tokV s i (tok1 (s.data.toList.drop i))) w):=by
 have h:tok1 (s.data.toList.drop i)=if letB s[i] then nameT (s.data.toList.drop i) else if digB s[i] then numT (s.data.toList.drop i) else signT (s.data.toList.drop i):=by
  rw [run_at s i hi]; rfl
 rw [h]
 cases hl:letB s[i] with
 | true=>exact rone_name s i hi hs w hl
 | false=>
  cases hd:digB s[i] with
  | true=>exact rone_num s i hi hs w hl hd
  | false=>exact rone_sig s i hi hs w hl hd
end Go.Proofs.YtmbffkemfepekaaGreatDoor
