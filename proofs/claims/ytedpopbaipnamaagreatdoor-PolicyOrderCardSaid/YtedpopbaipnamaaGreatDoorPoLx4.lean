/- lexer.number, walked. Conditions: the place lies in the text. -/
import Derived.Test.YtedpopbaipnamaaGreatDoorPoLx1
import Derived.Test.YtedpopbaipnamaaGreatDoorPoShelf
namespace Go.Proofs.YtedpopbaipnamaaGreatDoor
open Go.RowKit
theorem numV_snoc (l:List UInt8) (c:UInt8):numV (l++[c])=numV l * 10+(c.toNat - 48):=by unfold numV; rw [List.foldl_append]; rfl
theorem numV_take (s:ByteArray) (j:Nat) (h:j<s.size):numV (s.data.toList.take (j+1))=numV (s.data.toList.take j) * 10+((s[j]'h).toNat - 48):=by
 rw [List.take_add_one,get_list s j h]
 exact numV_snoc _ _
theorem numV_app:∀ (m l:List UInt8),numV l≤numV (l++m)
 | [],l=>by simp
 | c::m,l=>by
  have h1:=numV_app m (l++[c])
  rw [numV_snoc,List.append_assoc] at h1
  have h2:l++([c]++m)=l++c::m:=rfl
  rw [h2] at h1
  omega
theorem numV_mono (l:List UInt8) (j:Nat):numV (l.take j)≤numV l:=by
 have:=numV_app (l.drop j) (l.take j)
 rwa [List.take_append_drop] at this
theorem run_all (p:UInt8→Bool):∀ (l:List UInt8),∀ c∈l.take (runN p l),p c=true
 | [],c,h=>by simp [runN] at h
 | a::l,c,h=>by
  rw [runN] at h
  split at h
  ·next ha=>
   rw [List.take_succ_cons] at h
   rcases List.mem_cons.1 h with rfl | h
   ·exact ha
   ·exact run_all p l c h
  ·simp at h
set_option maxRecDepth 100000 in
set_option maxHeartbeats 6400000 in
theorem numTok_any (s:ByteArray) (i:Nat) (hi:i≤s.size) (hs:s.size≤140737488355328) (w:World):Calls Tryz.prog 53 #[.string s,.int .i64 (i:Nat)] w (Ret (tokV s i (numT (s.data.toList.drop i))) w):=by
 have HE:=Lib.hid (fun W=>end_any 52 digB (fun args W=>by kernel_rfl) dig_any s i hi hs W)
 have hle:=runN_le digB (s.data.toList.drop i)
 rw [List.length_drop,Array.length_toList] at hle
 have hsz:s.size=s.data.size:=rfl
 have hX:=ext_sub s i (runN digB (s.data.toList.drop i))
 have HRA:=Lib.hid (run_all digB (s.data.toList.drop i))
 have HR:Hid (numT (s.data.toList.drop i)=if badN (s.data.toList.drop i) then .er 3 else if 1099511627776<numV ((s.data.toList.drop i).take (runN digB (s.data.toList.drop i))) then .er 2 else .ok 2 (runN digB (s.data.toList.drop i)) (numV ((s.data.toList.drop i).take (runN digB (s.data.toList.drop i))))):=Lib.hid rfl
 have HBN:Hid (badN (s.data.toList.drop i)=((decide (1<runN digB (s.data.toList.drop i)) && (match s.data.toList.drop i with | []=>false | c::_=>c.toNat == 48)) || (match (s.data.toList.drop i).drop (runN digB (s.data.toList.drop i)) with | []=>false | c::_=>letB c || c.toNat == 95))):=Lib.hid rfl
 generalize numT (s.data.toList.drop i)=R at HR ⊢
 generalize hr:runN digB (s.data.toList.drop i)=r at HE hle hX HR HBN HRA
 obtain ⟨k,hk⟩:∃ k,k=i+r:=⟨_,rfl⟩
 rw [← hk] at HE hX
 have HDK:Hid ((s.data.toList.drop i).drop r=s.data.toList.drop k):=Lib.hid (by rw [List.drop_drop,hk])
 rw [HDK.out] at HBN
 obtain ⟨tx,htx⟩:∃ tx,tx=s.extract i k:=⟨_,rfl⟩
 have HTL:Hid (tx.data.toList=(s.data.toList.drop i).take r):=Lib.hid (by rw [htx,Lib.extract_data,show k - i=r from by omega])
 have HTS:Hid (tx.size=r):=Lib.hid (by
  have h1:tx.size=tx.data.toList.length:=by rw [Array.length_toList]; rfl
  rw [h1,HTL.out,List.length_take,List.length_drop,Array.length_toList]; omega)
 have HX:Hid (subB s i r=tx):=Lib.hid (by rw [htx,hX])
 have hsl:∀ W,(Instr.slice 9 (.string s) (some (.int .i64 (i:Nat))) (some (.int .i64 (k:Nat))) none).run Tryz.prog W=.ok (.string tx) W:=fun W=>by rw [htx]; exact str_slice s i k (by omega) (by omega) W
 have HDG:Hid (∀ (j:Nat) (h:j<tx.size),48≤(tx[j]'h).toNat∧(tx[j]'h).toNat≤57):=Lib.hid (fun j h=>by
  have h1:=List.mem_of_getElem? (get_list tx j h)
  rw [HTL.out] at h1
  have h2:=HRA.out _ h1
  unfold digB at h2
  simpa using h2)
 rw [← HTL.out] at HR
 have HHD:Hid (∀ h:0<tx.size,(match s.data.toList.drop i with | []=>false | c::_=>c.toNat == 48)=((tx[0]'h).toNat == 48)):=Lib.hid (fun h=>by
  have h1:=get_list tx 0 h
  rw [HTL.out] at h1
  cases hd:s.data.toList.drop i with
  | nil=>rw [hd] at h1; simp at h1
  | cons c q=>
   rw [hd] at h1
   have hr0:0<r:=by have:=HTS.out; omega
   obtain ⟨r',rfl⟩:∃ r',r=r'+1:=⟨r - 1,by omega⟩
   simp at h1
   simp [h1])
 have HNO:Hid (¬ k<s.size→(match s.data.toList.drop k with | []=>false | c::_=>letB c || c.toNat == 95)=false):=Lib.hid (fun h=>by rw [List.drop_of_length_le (by rw [Array.length_toList]; omega)])
 have HYS:Hid (∀ h:k<s.size,(match s.data.toList.drop k with | []=>false | c::_=>letB c || c.toNat == 95)=(letB (s[k]'h) || (s[k]'h).toNat == 95)):=Lib.hid (fun h=>by rw [run_at s k h])
 unfold RetP at HE
 unfold Ret
 have hi0:(0:Int)≤(i:Int):=by omega
 have hkz:k≤s.size:=by omega
 have hr47:r≤140737488355328:=by omega
 have htz:(tx.size:Int)=(r:Int):=by rw [HTS.out]
 have HTZ:=Lib.hid htz
 clear hX htx hr hk hle htz hsz
 generalize badN (s.data.toList.drop i)=BN at HR HBN
 have hO:=one_new w #[.int .i64 0,.string ⟨#[]⟩,.int .i64 0,.int .i64 0] 73
 have hF:∀ j,(w.alloc (.cells #[.int .i64 0,.string ⟨#[]⟩,.int .i64 0,.int .i64 0] 73)).frozen? ⟨w.heap.size,j,none⟩=false:=fun j=>by simp
 go_enter Tryz.func53,Tryz.ntmps53
 go_upto_region 1 with fail
 generalize w.alloc _=w1 at hO hF ⊢
 obtain ⟨d0,d1,d2,d3⟩:=bx4 hO.fst
 have f0:=hF 0
 have f1:=hF 1
 have f2:=hF 2
 have f3:=hF 3
 have D0:=Lib.hid d0
 have D1:=Lib.hid d1
 have D2:=Lib.hid d2
 have D3:=Lib.hid d3
 have HB:=Lib.hid hO.below
 have HF:=Lib.hid hF
 clear hO hF
 go_upto_region 3 with (go_at_call 69; refine (HE.out _).mono ?_; rintro e W5 ⟨rfl,hw⟩; obtain rfl:w1=W5:=hw.symm)
 clear d0 d1 d2 d3 f0 f1 f2 f3
 go_cut [42] (fun b42 wx=>b42=.bool BN∧wx=w1)
 case first=>
  by_cases h1r:1<r
  ·have hts1:0<tx.size:=by rw [HTS.out]; omega
   have a1:decide ((tx.size:Int) > 1)=true:=decide_eq_true (by have:=HTZ.out; omega)
   have a2:decide (1<(tx.size:Int))=true:=decide_eq_true (by have:=HTZ.out; omega)
   have a3:decide (1<tx.size)=true:=decide_eq_true (by have:=HTS.out; omega)
   have a4:(0:Int)<(tx.size:Int):=by omega
   have HH:=Lib.hid (HHD.out hts1)
   by_cases h48:((tx[0]'hts1).toNat)=48
   ·have b1:((((tx[0]'hts1).toNat):Int) == 48)=true:=by simpa using (by omega:(((tx[0]'hts1).toNat):Int)=48)
    have b2:(((tx[0]'hts1).toNat) == 48)=true:=by simpa using h48
    have HZ:Hid ((decide (1<r) && (match s.data.toList.drop i with | []=>false | c::_=>c.toNat == 48))=true):=Lib.hid (by rw [HH.out,b2,decide_eq_true h1r]; rfl)
    clear h48 h1r
    have HV:Hid (BN=true):=Lib.hid (by rw [HBN.out,HZ.out]; rfl)
    clear HBN
    go_wp2_with fail
    go_meet
    case rel=>exact ⟨by rw [HV.out],rfl⟩
   ·have b1:((((tx[0]'hts1).toNat):Int) == 48)=false:=by simpa using (by omega:¬ (((tx[0]'hts1).toNat):Int)=48)
    have b2:(((tx[0]'hts1).toNat) == 48)=false:=by simpa using h48
    have HZ:Hid ((decide (1<r) && (match s.data.toList.drop i with | []=>false | c::_=>c.toNat == 48))=false):=Lib.hid (by rw [HH.out,b2]; simp)
    clear h48 h1r
    by_cases hks:k<s.size
    rotate_left
    ·have k1:decide ((k:Int)<(s.size:Int))=false:=decide_eq_false (by omega)
     have k2:decide (k<s.size)=false:=decide_eq_false hks
     have HNK:=Lib.hid (HNO.out hks)
     have HV:Hid (BN=false):=Lib.hid (by rw [HBN.out,HZ.out,HNK.out]; rfl)
     clear HBN
     go_wp2_with fail
     go_meet
     case rel=>exact ⟨by rw [HV.out],rfl⟩
    ·have k1:decide ((k:Int)<(s.size:Int))=true:=decide_eq_true (by omega)
     have k2:decide (k<s.size)=true:=decide_eq_true hks
     have k3:(k:Int)<(s.size:Int):=by omega
     have HYK:=Lib.hid (HYS.out hks)
     have HLT:=Lib.hid (fun W=>ltr_any (s[k]'hks) W)
     unfold RetP at HLT
     have k0:(0:Int)≤(k:Int):=by omega
     generalize hlb:letB (s[k]'hks)=lb at HLT HYK
     clear hlb
     cases lb with
     | true=>
      have HV:Hid (BN=true):=Lib.hid (by rw [HBN.out,HZ.out,HYK.out]; rfl)
      clear HBN
      go_wp2_with (go_at_call 50; refine (HLT.out _).mono ?_; rintro e W5 ⟨rfl,hw⟩; obtain rfl:w1=W5:=hw.symm)
      go_meet
      case rel=>exact ⟨by rw [HV.out],rfl⟩
     | false=>
      by_cases h95:((s[k]'hks).toNat)=95
      ·have m1:((((s[k]'hks).toNat):Int) == 95)=true:=by simpa using (by omega:(((s[k]'hks).toNat):Int)=95)
       have m2:(((s[k]'hks).toNat) == 95)=true:=by simpa using h95
       have HYQ:Hid ((match s.data.toList.drop k with | []=>false | c::_=>letB c || c.toNat == 95)=true):=Lib.hid (by rw [HYK.out,m2]; rfl)
       clear h95
       have HV:Hid (BN=true):=Lib.hid (by rw [HBN.out,HZ.out,HYQ.out]; rfl)
       clear HBN
       go_wp2_with (go_at_call 50; refine (HLT.out _).mono ?_; rintro e W5 ⟨rfl,hw⟩; obtain rfl:w1=W5:=hw.symm)
       go_meet
       case rel=>exact ⟨by rw [HV.out],rfl⟩
      ·have m1:((((s[k]'hks).toNat):Int) == 95)=false:=by simpa using (by omega:¬ (((s[k]'hks).toNat):Int)=95)
       have m2:(((s[k]'hks).toNat) == 95)=false:=by simpa using h95
       have HYQ:Hid ((match s.data.toList.drop k with | []=>false | c::_=>letB c || c.toNat == 95)=false):=Lib.hid (by rw [HYK.out,m2]; rfl)
       clear h95
       have HV:Hid (BN=false):=Lib.hid (by rw [HBN.out,HZ.out,HYQ.out]; rfl)
       clear HBN
       go_wp2_with (go_at_call 50; refine (HLT.out _).mono ?_; rintro e W5 ⟨rfl,hw⟩; obtain rfl:w1=W5:=hw.symm)
       go_meet
       case rel=>exact ⟨by rw [HV.out],rfl⟩
  ·have a1:decide ((tx.size:Int) > 1)=false:=decide_eq_false (by have:=HTZ.out; omega)
   have a2:decide (1<(tx.size:Int))=false:=decide_eq_false (by have:=HTZ.out; omega)
   have a3:decide (1<tx.size)=false:=decide_eq_false (by have:=HTS.out; omega)
   have HZ:Hid ((decide (1<r) && (match s.data.toList.drop i with | []=>false | c::_=>c.toNat == 48))=false):=Lib.hid (by rw [decide_eq_false h1r]; rfl)
   clear h1r
   by_cases hks:k<s.size
   rotate_left
   ·have k1:decide ((k:Int)<(s.size:Int))=false:=decide_eq_false (by omega)
    have k2:decide (k<s.size)=false:=decide_eq_false hks
    have HNK:=Lib.hid (HNO.out hks)
    have HV:Hid (BN=false):=Lib.hid (by rw [HBN.out,HZ.out,HNK.out]; rfl)
    clear HBN
    go_wp2_with fail
    go_meet
    case rel=>exact ⟨by rw [HV.out],rfl⟩
   ·have k1:decide ((k:Int)<(s.size:Int))=true:=decide_eq_true (by omega)
    have k2:decide (k<s.size)=true:=decide_eq_true hks
    have k3:(k:Int)<(s.size:Int):=by omega
    have HYK:=Lib.hid (HYS.out hks)
    have HLT:=Lib.hid (fun W=>ltr_any (s[k]'hks) W)
    unfold RetP at HLT
    have k0:(0:Int)≤(k:Int):=by omega
    generalize hlb:letB (s[k]'hks)=lb at HLT HYK
    clear hlb
    cases lb with
    | true=>
     have HV:Hid (BN=true):=Lib.hid (by rw [HBN.out,HZ.out,HYK.out]; rfl)
     clear HBN
     go_wp2_with (go_at_call 50; refine (HLT.out _).mono ?_; rintro e W5 ⟨rfl,hw⟩; obtain rfl:w1=W5:=hw.symm)
     go_meet
     case rel=>exact ⟨by rw [HV.out],rfl⟩
    | false=>
     by_cases h95:((s[k]'hks).toNat)=95
     ·have m1:((((s[k]'hks).toNat):Int) == 95)=true:=by simpa using (by omega:(((s[k]'hks).toNat):Int)=95)
      have m2:(((s[k]'hks).toNat) == 95)=true:=by simpa using h95
      have HYQ:Hid ((match s.data.toList.drop k with | []=>false | c::_=>letB c || c.toNat == 95)=true):=Lib.hid (by rw [HYK.out,m2]; rfl)
      clear h95
      have HV:Hid (BN=true):=Lib.hid (by rw [HBN.out,HZ.out,HYQ.out]; rfl)
      clear HBN
      go_wp2_with (go_at_call 50; refine (HLT.out _).mono ?_; rintro e W5 ⟨rfl,hw⟩; obtain rfl:w1=W5:=hw.symm)
      go_meet
      case rel=>exact ⟨by rw [HV.out],rfl⟩
     ·have m1:((((s[k]'hks).toNat):Int) == 95)=false:=by simpa using (by omega:¬ (((s[k]'hks).toNat):Int)=95)
      have m2:(((s[k]'hks).toNat) == 95)=false:=by simpa using h95
      have HYQ:Hid ((match s.data.toList.drop k with | []=>false | c::_=>letB c || c.toNat == 95)=false):=Lib.hid (by rw [HYK.out,m2]; rfl)
      clear h95
      have HV:Hid (BN=false):=Lib.hid (by rw [HBN.out,HZ.out,HYQ.out]; rfl)
      clear HBN
      go_wp2_with (go_at_call 50; refine (HLT.out _).mono ?_; rintro e W5 ⟨rfl,hw⟩; obtain rfl:w1=W5:=hw.symm)
      go_meet
      case rel=>exact ⟨by rw [HV.out],rfl⟩
 case rest=>
  obtain ⟨rfl,rfl⟩:=hcut
  have f0:=HF.out 0
  have f1:=HF.out 1
  have f2:=HF.out 2
  have f3:=HF.out 3
  have d0:=D0.out
  have d1:=D1.out
  have d2:=D2.out
  have d3:=D3.out
  cases BN with
  | true=>
   have HV:Hid (R=.er 3):=Lib.hid (by rw [HR.out]; rfl)
   go_wp2_with fail
   obtain ⟨q0,q1,q2,q3⟩:=set4 D0.out D1.out D2.out D3.out (.int .i64 0) (.string ⟨#[]⟩) (.int .i64 0) (.int .i64 0)
   have hby:=set4_below HB.out (Nat.le_refl _) (.int .i64 0) (.string ⟨#[]⟩) (.int .i64 0) (.int .i64 0)
   generalize World.setCell _ _ _=w6 at q0 q1 q2 q3 hby ⊢
   refine bodyPost_ret (v:=.tuple #[.agg #[.int .i64 0,.string ⟨#[]⟩,.int .i64 0,.int .i64 0],.int .i64 3]) (by rw [results_cell_tmp rfl]; go_simp) rfl ⟨by rw [HV.out]; rfl,hby⟩
  | false=>
   have HGD:Hid (R=if 1099511627776<numV tx.data.toList then .er 2 else .ok 2 r (numV tx.data.toList)):=Lib.hid (by rw [HR.out]; rfl)
   go_wp2_with fail
   go_loopw [5,8,46] (fun er nv iv wr=>er=.int .i64 0∧wr=wc∧∃ j:Nat,iv=.int .i64 (j:Nat)∧j≤r∧nv=.int .i64 (numV (tx.data.toList.take j):Nat)∧numV (tx.data.toList.take j)≤1099511627776) (fun _ _ iv _=>r - (intOf iv).toNat)
   case atStart=>exact ⟨rfl,rfl,0,rfl,Nat.zero_le _,rfl,by simp [numV]⟩
   case round=>
    obtain ⟨rfl,rfl,j,rfl,hj,rfl,hnv⟩:=hrel
    have hj0:(0:Int)≤(j:Int):=by omega
    have hwr1:IntKind.i64.wrap ((j:Int)+1)=(j:Int)+1:=by rw [IntKind.wrap_i64]; omega
    by_cases hlt:j<r
    ·have hts:j<tx.size:=by rw [HTS.out]; exact hlt
     have hts0:(j:Int)<(tx.size:Int):=by omega
     have hd1:decide ((j:Int)<(tx.size:Int))=true:=decide_eq_true (by omega)
     have hd2:decide (j<tx.size)=true:=decide_eq_true hts
     have hdg:=HDG.out j hts
     have HNX:Hid (numV (tx.data.toList.take (j+1))=numV (tx.data.toList.take j) * 10+((tx[j]'hts).toNat - 48)):=Lib.hid (numV_take tx j hts)
     have HMO:Hid (numV (tx.data.toList.take (j+1))≤numV tx.data.toList):=Lib.hid (numV_mono tx.data.toList (j+1))
     generalize numV (tx.data.toList.take j)=n at hnv HNX
     have hwu:((((tx[j]'hts).toNat):Int) - 48) % 256=(((tx[j]'hts).toNat):Int) - 48:=by omega
     have hw3:IntKind.i64.wrap ((((tx[j]'hts).toNat):Int) - 48)=(((tx[j]'hts).toNat):Int) - 48:=by rw [IntKind.wrap_i64]; omega
     have hw4:IntKind.i64.wrap ((n:Int) * 10)=(n:Int) * 10:=by rw [IntKind.wrap_i64]; omega
     have hw5:IntKind.i64.wrap ((n:Int) * 10+((((tx[j]'hts).toNat):Int) - 48))=(n:Int) * 10+((((tx[j]'hts).toNat):Int) - 48):=by rw [IntKind.wrap_i64]; omega
     by_cases hbig:1099511627776<n * 10+(((tx[j]'hts).toNat) - 48)
     ·have g1:decide ((n:Int) * 10+((((tx[j]'hts).toNat):Int) - 48) > 1099511627776)=true:=decide_eq_true (by omega)
      have g2:decide (1099511627776<(n:Int) * 10+((((tx[j]'hts).toNat):Int) - 48))=true:=decide_eq_true (by omega)
      have HV:Hid (R=.er 2):=Lib.hid (by rw [HGD.out,if_pos (by have h1:=HNX.out; have h2:=HMO.out; omega)])
      clear hbig
      go_wp2_with fail
      obtain ⟨q0,q1,q2,q3⟩:=set4 D0.out D1.out D2.out D3.out (.int .i64 0) (.string ⟨#[]⟩) (.int .i64 0) (.int .i64 0)
      have hby:=set4_below HB.out (Nat.le_refl _) (.int .i64 0) (.string ⟨#[]⟩) (.int .i64 0) (.int .i64 0)
      generalize World.setCell _ _ _=w6 at q0 q1 q2 q3 hby ⊢
      refine bodyPost_ret (v:=.tuple #[.agg #[.int .i64 0,.string ⟨#[]⟩,.int .i64 0,.int .i64 0],.int .i64 2]) (by rw [results_cell_tmp rfl]; go_simp) rfl ⟨by rw [HV.out]; rfl,hby⟩
     ·have g1:decide ((n:Int) * 10+((((tx[j]'hts).toNat):Int) - 48) > 1099511627776)=false:=decide_eq_false (by omega)
      have g2:decide (1099511627776<(n:Int) * 10+((((tx[j]'hts).toNat):Int) - 48))=false:=decide_eq_false (by omega)
      have HN2:Hid (numV (tx.data.toList.take (j+1))≤1099511627776):=Lib.hid (by rw [HNX.out]; omega)
      have HN3:Hid (((numV (tx.data.toList.take (j+1)):Nat):Int)=(n:Int) * 10+((((tx[j]'hts).toNat):Int) - 48)):=Lib.hid (by rw [HNX.out]; omega)
      clear hbig
      go_wp2_with fail
      exact ⟨⟨rfl,by first | rfl | exact True.intro,j+1,by go_num,by omega,by rw [HN3.out],HN2.out⟩,by simp [intOf]; omega⟩
    ·have hts0:¬ j<tx.size:=by rw [HTS.out]; exact hlt
     have hd1:decide ((j:Int)<(tx.size:Int))=false:=decide_eq_false (by omega)
     have hd2:decide (j<tx.size)=false:=decide_eq_false hts0
     have HNT:Hid (numV (tx.data.toList.take j)=numV tx.data.toList):=Lib.hid (by rw [List.take_of_length_le (by rw [Array.length_toList]; show tx.size≤j; omega)])
     have HV:Hid (R=.ok 2 r (numV (tx.data.toList.take j))):=Lib.hid (by rw [HGD.out,if_neg (by have h1:=HNT.out; omega),HNT.out])
     generalize numV (tx.data.toList.take j)=n at hnv HV
     have HTX:Hid (tokV s i (.ok 2 r n)=.tuple #[.agg #[.int .i64 2,.string tx,.int .i64 (n:Nat),.int .i64 (i:Nat)],.int .i64 0]):=Lib.hid (by show Value.tuple #[.agg #[.int .i64 2,.string (subB s i r),.int .i64 (n:Nat),.int .i64 (i:Nat)],.int .i64 0]=_; rw [HX.out])
     go_wp2_with fail
     obtain ⟨q0,q1,q2,q3⟩:=set4 D0.out D1.out D2.out D3.out (.int .i64 2) (.string tx) (.int .i64 (n:Nat)) (.int .i64 (i:Nat))
     have hby:=set4_below HB.out (Nat.le_refl _) (.int .i64 2) (.string tx) (.int .i64 (n:Nat)) (.int .i64 (i:Nat))
     generalize World.setCell _ _ _=w6 at q0 q1 q2 q3 hby ⊢
     refine bodyPost_ret (v:=.tuple #[.agg #[.int .i64 2,.string tx,.int .i64 (n:Nat),.int .i64 (i:Nat)],.int .i64 0]) (by rw [results_cell_tmp rfl]; go_simp) rfl ⟨by rw [HV.out,HTX.out],hby⟩
end Go.Proofs.YtedpopbaipnamaaGreatDoor

namespace Go.Proofs.YtedpopbaipnamaaGreatDoor
open Go.RowKit
def dblB:List ByteArray:=[⟨#[38,38]⟩,⟨#[124,124]⟩,⟨#[61,61]⟩,⟨#[33,61]⟩,⟨#[60,61]⟩,⟨#[62,61]⟩]
theorem pre_two (a b:UInt8):∀ l:List UInt8,Lib.hasPrefix l [a,b]=(l.take 2 == [a,b])
 | []=>rfl
 | [x]=>by simp [Lib.hasPrefix,List.isPrefixOf]
 | x::y::r=>by
  show (a == x && (b == y && true))=(x == a && (y == b && true))
  rw [BEq.comm (a:=a),BEq.comm (a:=b)]
theorem idx_has (c:UInt8):∀ l:List UInt8,(0≤Lib.indexByte l c↔c∈l)∧-1≤Lib.indexByte l c
 | []=>by simp [Lib.indexByte]
 | b::l=>by
  have ih:=idx_has c l
  unfold Lib.indexByte
  by_cases h:b=c
  ·subst h
   simp
  ·rw [if_neg (by simpa using h)]
   have hc:c∈b::l↔c∈l:=by simp [show ¬ c=b from fun e=>h e.symm]
   rw [hc,← ih.1]
   by_cases h1:Lib.indexByte l c = -1
   ·rw [if_pos (by simpa using h1)]
    have:=ih.2
    omega
   ·rw [if_neg (by simpa using h1)]
    have:=ih.2
    omega
theorem dbl_form:∀ (j:Nat) (t:ByteArray),dblB[j]? = some t→∃ a b,t=⟨#[a,b]⟩∧[a,b]∈dblS
 | 0,t,h=>by cases h; exact ⟨_,_,rfl,by decide⟩
 | 1,t,h=>by cases h; exact ⟨_,_,rfl,by decide⟩
 | 2,t,h=>by cases h; exact ⟨_,_,rfl,by decide⟩
 | 3,t,h=>by cases h; exact ⟨_,_,rfl,by decide⟩
 | 4,t,h=>by cases h; exact ⟨_,_,rfl,by decide⟩
 | 5,t,h=>by cases h; exact ⟨_,_,rfl,by decide⟩
 | j+6,t,h=>by simp [dblB] at h
theorem ext_drop (s:ByteArray) (i:Nat):(s.extract i s.size).data.toList=s.data.toList.drop i:=by
 rw [Lib.extract_data,List.take_of_length_le]
 rw [List.length_drop,Array.length_toList]
 exact Nat.le_refl _
theorem sign_dbl (s:ByteArray) (i j:Nat) (t:ByteArray) (h:dblB[j]? = some t) (hp:Lib.hasPrefix (s.data.toList.drop i) t.data.toList=true):signT (s.data.toList.drop i)=.ok 3 2 0∧subB s i 2=t:=by
 obtain ⟨a,b,rfl,hm⟩:=dbl_form j t h
 change Lib.hasPrefix _ [a,b]=true at hp
 rw [pre_two,beq_iff_eq] at hp
 constructor
 ·unfold signT
  rw [hp,if_pos (by simpa using hm)]
 ·unfold subB
  rw [hp]
theorem sign_not (s:ByteArray) (i:Nat) (hi:i<s.size) (hn:∀ (j:Nat) (t:ByteArray),dblB[j]? = some t→Lib.hasPrefix (s.data.toList.drop i) t.data.toList=false):signT (s.data.toList.drop i)=if sglS.contains (s[i]'hi) then .ok 3 1 0 else .er 3:=by
 have h0:=hn 0 _ rfl
 have h1:=hn 1 _ rfl
 have h2:=hn 2 _ rfl
 have h3:=hn 3 _ rfl
 have h4:=hn 4 _ rfl
 have h5:=hn 5 _ rfl
 change Lib.hasPrefix _ [_,_]=false at h0 h1 h2 h3 h4 h5
 rw [pre_two] at h0 h1 h2 h3 h4 h5
 unfold signT
 rw [if_neg (by simp only [dblS,List.contains_cons,h0,h1,h2,h3,h4,h5]; simp)]
 rw [run_at s i hi]
theorem str_from (s:ByteArray) (i:Nat) (h:i≤s.size) (W:World):(Instr.slice 9 (.string s) (some (.int .i64 (i:Nat))) none none).run Tryz.prog W=.ok (.string (s.extract i s.size)) W:=by
 rw [run_slice_string_from_if _ _ _ _ _ Tryz.underlying9,if_pos (by omega)]
 simp
set_option maxRecDepth 100000 in
set_option maxHeartbeats 1600000 in
theorem signTok_any (s:ByteArray) (i:Nat) (hi:i<s.size) (hs:s.size≤140737488355328) (w:World):Calls Tryz.prog 49 #[.string s,.int .i64 (i:Nat)] w (Ret (tokV s i (signT (s.data.toList.drop i))) w):=by
 have HP:=Lib.hid (fun (t:ByteArray) W=>Tryz.strings_HasPrefix (s.extract i s.size) t W)
 rw [ext_drop] at HP
 have HQ:=Lib.hid (fun W=>Tryz.strings_Contains_one ⟨#[60,62,43,45,42,47,37,33,61,40,41,123,125,44,59]⟩ (s[i]'hi) W)
 have HD:=Lib.hid (fun j t=>sign_dbl s i j t)
 have HN:=Lib.hid (sign_not s i hi)
 have hs1:s.extract i (i+1)=⟨#[s[i]'hi]⟩:=by
  rw [ext_sub]
  unfold subB
  rw [run_at s i hi]
  rfl
 have hX1:Hid (subB s i 1=⟨#[s[i]'hi]⟩):=Lib.hid (by rw [← hs1,ext_sub])
 have hfr:=fun W=>str_from s i (by omega) W
 have hon:∀ W,(Instr.slice 9 (.string s) (some (.int .i64 (i:Nat))) (some (.int .i64 ((i:Int)+1))) none).run Tryz.prog W=.ok (.string ⟨#[s[i]'hi]⟩) W:=fun W=>by
  have h:=str_slice s i (i+1) (by omega) (by omega) W
  rw [hs1] at h
  exact h
 have hi1:IntKind.i64.wrap ((i:Int)+1)=(i:Int)+1:=by rw [IntKind.wrap_i64]; omega
 have HSG:Hid (decide (0≤Lib.indexByte [60,62,43,45,42,47,37,33,61,40,41,123,125,44,59] (s[i]'hi))=sglS.contains (s[i]'hi)):=Lib.hid (by
  have h:=(idx_has (s[i]'hi) [60,62,43,45,42,47,37,33,61,40,41,123,125,44,59]).1
  rw [Bool.eq_iff_iff,decide_eq_true_iff,h,List.contains_iff_mem]
  rfl)
 clear hs1
 generalize sglS.contains (s[i]'hi)=sg at HN HSG
 generalize signT (s.data.toList.drop i)=R at HD HN ⊢
 generalize s.extract i s.size=sx at HP hfr
 generalize s[i]'hi=ci at *
 unfold Ret
 have hO:=one_new w #[.int .i64 0,.string ⟨#[]⟩,.int .i64 0,.int .i64 0] 73
 have hF:∀ j,(w.alloc (.cells #[.int .i64 0,.string ⟨#[]⟩,.int .i64 0,.int .i64 0] 73)).frozen? ⟨w.heap.size,j,none⟩=false:=fun j=>by simp
 go_enter Tryz.func49,Tryz.ntmps49
 go_upto_region 1 with fail
 generalize w.alloc _=w1 at hO hF ⊢
 obtain ⟨d0,d1,d2,d3⟩:=bx4 hO.fst
 have f0:=hF 0
 have f1:=hF 1
 have f2:=hF 2
 have f3:=hF 3
 have D0:=Lib.hid d0
 have D1:=Lib.hid d1
 have D2:=Lib.hid d2
 have D3:=Lib.hid d3
 have HB:=Lib.hid hO.below
 have HF:=Lib.hid hF
 have HBX:=Lib.hid hO.fst
 have hsz1:=hO.size
 clear hO hF
 go_wp2_with fail
 have hA:=bx_new w1 #[.string ⟨#[38,38]⟩,.string ⟨#[124,124]⟩,.string ⟨#[61,61]⟩,.string ⟨#[33,61]⟩,.string ⟨#[60,61]⟩,.string ⟨#[62,61]⟩] 9
 have hbl:=below_alloc w1 (.cells #[.string ⟨#[38,38]⟩,.string ⟨#[124,124]⟩,.string ⟨#[61,61]⟩,.string ⟨#[33,61]⟩,.string ⟨#[60,61]⟩,.string ⟨#[62,61]⟩] 9)
 generalize w1.alloc _=w2 at hA hbl ⊢
 obtain ⟨d0,d1,d2,d3⟩:=bx4 (HBX.out.below hbl (by omega))
 have HB2:=Lib.hid (HB.out.trans (hbl.mono (by omega)))
 have f0:=(hbl.frozen (p:=⟨w.heap.size,0,none⟩) (by show w.heap.size<_; omega)).trans (HF.out 0)
 have f1:=(hbl.frozen (p:=⟨w.heap.size,1,none⟩) (by show w.heap.size<_; omega)).trans (HF.out 1)
 have f2:=(hbl.frozen (p:=⟨w.heap.size,2,none⟩) (by show w.heap.size<_; omega)).trans (HF.out 2)
 have f3:=(hbl.frozen (p:=⟨w.heap.size,3,none⟩) (by show w.heap.size<_; omega)).trans (HF.out 3)
 have D0:=Lib.hid d0
 have D1:=Lib.hid d1
 have D2:=Lib.hid d2
 have D3:=Lib.hid d3
 have HB:=HB2
 have HA:Hid (∀ (j:Nat) (t:ByteArray),dblB[j]? = some t→w2.cell? ⟨w1.heap.size,j,none⟩=some (.string t)):=Lib.hid (fun j t h=>hA j _ (by
  have h1:(dblB.map Value.string)[j]? = some (.string t):=by rw [List.getElem?_map,h]; rfl
  exact h1))
 generalize w1.heap.size=b1 at HA ⊢
 clear hA hbl HB2 HBX HF hsz1
 go_loopw [10] (fun jv wr=>wr=w2∧∃ j:Nat,jv=.int .i64 (j:Nat)∧j≤6∧Hid (∀ (m:Nat) (t:ByteArray),m<j→dblB[m]? = some t→Lib.hasPrefix (s.data.toList.drop i) t.data.toList=false)) (fun jv _=>6 - (intOf jv).toNat)
 case atStart=>exact ⟨rfl,0,rfl,by omega,Lib.hid (fun m t h=>absurd h (by omega))⟩
 case round=>
  obtain ⟨rfl,j,rfl,hj,HNJ⟩:=hrel
  have hj0:(0:Int)≤(j:Int):=by omega
  have hwj:IntKind.i64.wrap ((j:Int)+1)=(j:Int)+1:=by rw [IntKind.wrap_i64]; omega
  by_cases hlt:j<6
  ·have g1:decide ((j:Int)<6)=true:=decide_eq_true (by omega)
   have g2:decide (j<6)=true:=decide_eq_true hlt
   have g3:(j:Int)<6:=by omega
   obtain ⟨t,ht⟩:∃ t,dblB[j]? = some t:=⟨dblB[j]'hlt,List.getElem?_eq_getElem hlt⟩
   have hcl:=HA.out j t ht
   have HT:=Lib.hid ht
   have HPT:=Lib.hid (HP.out t)
   have HDT:=Lib.hid (HD.out j t ht)
   cases hp:Lib.hasPrefix (s.data.toList.drop i) t.data.toList with
   | true=>
    have HV:=Lib.hid (HDT.out hp).1
    have HX:=Lib.hid (HDT.out hp).2
    have HTX:Hid (tokV s i (.ok 3 2 0)=.tuple #[.agg #[.int .i64 3,.string t,.int .i64 0,.int .i64 (i:Nat)],.int .i64 0]):=Lib.hid (by show Value.tuple #[.agg #[.int .i64 3,.string (subB s i 2),.int .i64 0,.int .i64 (i:Nat)],.int .i64 0]=_; rw [HX.out])
    rw [hp] at HPT
    clear ht hp hlt
    go_wp2_with (go_at_call 67; refine (HPT.out _).mono ?_; rintro e W5 ⟨rfl,hw⟩; obtain rfl:wr=W5:=hw.symm)
    obtain ⟨q0,q1,q2,q3⟩:=set4 D0.out D1.out D2.out D3.out (.int .i64 3) (.string t) (.int .i64 0) (.int .i64 (i:Nat))
    have hby:=set4_below HB.out (Nat.le_refl _) (.int .i64 3) (.string t) (.int .i64 0) (.int .i64 (i:Nat))
    generalize World.setCell _ _ _=w6 at q0 q1 q2 q3 hby ⊢
    refine bodyPost_ret (v:=.tuple #[.agg #[.int .i64 3,.string t,.int .i64 0,.int .i64 (i:Nat)],.int .i64 0]) (by rw [results_cell_tmp rfl]; go_simp) rfl ⟨by rw [HV.out,HTX.out],hby⟩
   | false=>
    rw [hp] at HPT
    have HNN:Hid (∀ (m:Nat) (t:ByteArray),m<j+1→dblB[m]? = some t→Lib.hasPrefix (s.data.toList.drop i) t.data.toList=false):=Lib.hid (fun m t' h h'=>by
     by_cases hm:m<j
     ·exact HNJ.out m t' hm h'
     ·obtain rfl:m=j:=by omega
      rw [HT.out] at h'
      cases h'
      exact hp)
    clear ht hp hlt
    go_wp2_with (go_at_call 67; refine (HPT.out _).mono ?_; rintro e W5 ⟨rfl,hw⟩; obtain rfl:wr=W5:=hw.symm)
    exact ⟨⟨by first | rfl | exact True.intro,j+1,by go_num,by omega,HNN⟩,by simp [intOf]; omega⟩
  ·obtain rfl:j=6:=by omega
   have g1:decide (((6:Nat):Int)<6)=false:=rfl
   have HR:Hid (R=if sg=true then .ok 3 1 0 else .er 3):=Lib.hid (HN.out (fun m t h=>by
    by_cases hm:m<6
    ·exact HNJ.out m t hm h
    ·rw [List.getElem?_eq_none (by show 6≤m; omega)] at h; cases h))
   have HCO:Hid (∀ W,Calls Tryz.prog 68 #[.string ⟨#[60,62,43,45,42,47,37,33,61,40,41,123,125,44,59]⟩,.string ⟨#[ci]⟩] W fun e w'=>e=.returned (.bool sg)∧w'=W):=Lib.hid (fun W=>by
    have h:=HQ.out W
    rw [← HSG.out]
    exact h)
   clear HQ HSG HNJ hlt
   cases sg with
   | true=>
    have HV:Hid (R=.ok 3 1 0):=Lib.hid (by rw [HR.out]; rfl)
    have HTX:Hid (tokV s i (.ok 3 1 0)=.tuple #[.agg #[.int .i64 3,.string ⟨#[ci]⟩,.int .i64 0,.int .i64 (i:Nat)],.int .i64 0]):=Lib.hid (by show Value.tuple #[.agg #[.int .i64 3,.string (subB s i 1),.int .i64 0,.int .i64 (i:Nat)],.int .i64 0]=_; rw [hX1.out])
    go_wp2_with (go_at_call 68; refine (HCO.out _).mono ?_; rintro e W5 ⟨rfl,hw⟩; obtain rfl:wr=W5:=hw.symm)
    obtain ⟨q0,q1,q2,q3⟩:=set4 D0.out D1.out D2.out D3.out (.int .i64 3) (.string ⟨#[ci]⟩) (.int .i64 0) (.int .i64 (i:Nat))
    have hby:=set4_below HB.out (Nat.le_refl _) (.int .i64 3) (.string ⟨#[ci]⟩) (.int .i64 0) (.int .i64 (i:Nat))
    generalize World.setCell _ _ _=w6 at q0 q1 q2 q3 hby ⊢
    refine bodyPost_ret (v:=.tuple #[.agg #[.int .i64 3,.string ⟨#[ci]⟩,.int .i64 0,.int .i64 (i:Nat)],.int .i64 0]) (by rw [results_cell_tmp rfl]; go_simp) rfl ⟨by rw [HV.out,HTX.out],hby⟩
   | false=>
    have HV:Hid (R=.er 3):=Lib.hid (by rw [HR.out]; rfl)
    go_wp2_with (go_at_call 68; refine (HCO.out _).mono ?_; rintro e W5 ⟨rfl,hw⟩; obtain rfl:wr=W5:=hw.symm)
    obtain ⟨q0,q1,q2,q3⟩:=set4 D0.out D1.out D2.out D3.out (.int .i64 0) (.string ⟨#[]⟩) (.int .i64 0) (.int .i64 0)
    have hby:=set4_below HB.out (Nat.le_refl _) (.int .i64 0) (.string ⟨#[]⟩) (.int .i64 0) (.int .i64 0)
    generalize World.setCell _ _ _=w6 at q0 q1 q2 q3 hby ⊢
    refine bodyPost_ret (v:=.tuple #[.agg #[.int .i64 0,.string ⟨#[]⟩,.int .i64 0,.int .i64 0],.int .i64 3]) (by rw [results_cell_tmp rfl]; go_simp) rfl ⟨by rw [HV.out]; rfl,hby⟩
end Go.Proofs.YtedpopbaipnamaaGreatDoor
