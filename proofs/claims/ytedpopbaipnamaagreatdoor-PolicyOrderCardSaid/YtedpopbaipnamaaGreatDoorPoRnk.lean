/- policy.rankOf and the law's rank, walked. Conditions: the policy and the bindings lie in memory, the bindings are valid. -/
import Derived.Test.YtedpopbaipnamaaGreatDoorPoBnd
import Derived.Test.YtedpopbaipnamaaGreatDoorPoPolL
import Derived.Test.YtedpopbaipnamaaGreatDoorPoPolM
namespace Go.Proofs.YtedpopbaipnamaaGreatDoor
open Go.RowKit
theorem set2 {W:World} {B:Nat} {u0 u1:Value} (h0:W.cell? ⟨B,0,none⟩=some u0) (h1:W.cell? ⟨B,1,none⟩=some u1) (v0 v1:Value) :
  ((W.setCell ⟨B,0,none⟩ v0).setCell ⟨B,1,none⟩ v1).cell? ⟨B,0,none⟩=some v0∧((W.setCell ⟨B,0,none⟩ v0).setCell ⟨B,1,none⟩ v1).cell? ⟨B,1,none⟩=some v1:=by
 have n01:(⟨B,1,none⟩:Addr)≠⟨B,0,none⟩:=by intro e; cases e
 exact ⟨(World.cell?_setCell_other _ _ _ _ n01).trans (World.cell?_setCell_same _ _ _ h0),World.cell?_setCell_same _ _ _ ((World.cell?_setCell_other _ _ _ _ n01.symm).trans h1)⟩
theorem evalE_ne (l:List Bd) (e:Ex) (f:Nat) (h:evalE l e=.er f):f≠0:=by
 unfold evalE at h
 cases ht:typeE l e with
 | er g=>rw [ht] at h; injection h with h; subst h; exact typeE_ne _ _ _ ht
 | ok t=>rw [ht] at h; exact valE_ne _ _ _ h
/-- The first rules do not apply. -/
def RkAt (bs:List Bd) (rs:List Rl) (j:Nat):Prop:=rankF bs j (rs.drop j)=rankR rs bs
theorem rk_none {bs:List Bd} {rs:List Rl} {j:Nat} (h:RkAt bs rs j) (hj:j<rs.length) (hk:keyR bs rs[j]=none):RkAt bs rs (j+1):=by
 unfold RkAt at h ⊢
 rw [← h,List.drop_eq_getElem_cons hj,rankF,hk]
theorem rk_some {bs:List Bd} {rs:List Rl} {j:Nat} {k:Int} (h:RkAt bs rs j) (hj:j<rs.length) (hk:keyR bs rs[j]=some k):rankR rs bs=((j:Int),k):=by
 unfold RkAt at h
 rw [← h,List.drop_eq_getElem_cons hj,rankF,hk]
theorem rk_end {bs:List Bd} {rs:List Rl} {j:Nat} (h:RkAt bs rs j) (hj:j=rs.length):rankR rs bs=((rs.length:Int),0):=by
 unfold RkAt at h
 rw [← h,List.drop_of_length_le (by omega),rankF,hj]
theorem frz2 (w:World) (a b:Array Value) (s t:TypeId) (j:Nat):((w.alloc (.cells a s)).alloc (.cells b t)).frozen? ⟨w.heap.size+1,j,none⟩=false:=fresh2 w _ b t j
set_option maxRecDepth 100000 in
set_option maxHeartbeats 6400000 in
theorem rankOf_any (bs:List Bd) (V:BdOk bs) (Ab:Option Addr) (cb Bb:Nat) (A:Option Addr) (c B:Nat) (rs:List Rl) (w:World) (hP:LiesP w B A c rs) (hB:B≤w.heap.size) (hR:RdB w Bb Ab bs) (hBb:Bb≤w.heap.size) :
  Calls Tryz.prog 19 #[.agg #[.slice A rs.length c],.slice Ab bs.length cb] w (Ret (.agg #[.int .i64 (rankR rs bs).1,.int .i64 (rankR rs bs).2]) w):=by
 have hl:=hP.len
 have HP:=Lib.hid hP
 have HEV:Hid (∀ (e:Ex) (lo:Nat) (vs:List Value) (W W':World),Below w.heap.size w W→Below W.heap.size W W'→LiesE W lo vs e→lo≤w.heap.size→Calls Tryz.prog 41 #[.agg vs.toArray,.slice Ab bs.length cb] W' (Ret (ansV (evalE bs e)) W')):=Lib.hid (fun e lo vs W W' h1 h2 hL hlo=>by
  have h3:=h1.trans (h2.mono h1.size)
  exact eval_any bs V Ab cb Bb e lo vs W' (hL.below' h2 (Nat.le_trans hlo h1.size)) (Nat.le_trans hlo h3.size) (Rd.below' hR h3 hBb) (Nat.le_trans hBb h3.size))
 have HRK0:Hid (RkAt bs rs 0):=Lib.hid rfl
 have hT:=two_new w #[.slice A rs.length c] #[.int .i64 0,.int .i64 0] 24 59
 have hF:∀ j,((w.alloc (.cells #[.slice A rs.length c] 24)).alloc (.cells #[.int .i64 0,.int .i64 0] 59)).frozen? ⟨w.heap.size+1,j,none⟩=false:=fun j=>frz2 w _ _ _ _ j
 clear hP hR V
 unfold Ret
 go_enter Tryz.func19,Tryz.ntmps19
 go_upto_region 1 with fail
 obtain ⟨RB,hRBe⟩:∃ RB,RB=w.heap.size+1:=⟨_,rfl⟩
 rw [← hRBe] at hF ⊢
 generalize World.alloc _ _=w3 at hT hF ⊢
 have x0:=hT.fst 0 _ rfl
 have hd:=hT.snd
 have hsz:=hT.size
 have HB3:=Lib.hid hT.below
 rw [← hRBe] at hd
 have D0:=Lib.hid (hd 0 _ rfl)
 have D1:=Lib.hid (hd 1 _ rfl)
 have G0:=Lib.hid (hF 0)
 have G1:=Lib.hid (hF 1)
 have hRB:w.heap.size≤RB:=by omega
 have hRB2:RB<w3.heap.size:=by omega
 have hXB:w.heap.size<w3.heap.size:=by omega
 have hXB1:w.heap.size+1<w3.heap.size:=by omega
 have X0:=Lib.hid x0
 clear hd hF hT hRBe
 go_wp2_with fail
 go_loopw [14] (fun i wr=>∃ j:Nat,i=.int .i64 (j:Nat)∧j≤rs.length∧Hid (RkAt bs rs j)∧Below w3.heap.size w3 wr) (fun i _=>rs.length - (intOf i).toNat)
 case atStart=>exact ⟨0,rfl,Nat.zero_le _,HRK0,Below.refl _ _⟩
 case round=>
  clear x0
  obtain ⟨j,rfl,hj,hrk,hb⟩:=hrel
  have hj0:(0:Int)≤(j:Int):=by omega
  have HBW:Hid (Below w.heap.size w wr):=Lib.hid (HB3.out.trans (hb.mono HB3.out.size))
  have HB:=Lib.hid hb
  by_cases hlt:j<rs.length
  ·have hd1:decide ((j:Int)<(rs.length:Int))=true:=decide_eq_true (by omega)
   have hwr1:IntKind.i64.wrap ((j:Int)+1)=(j:Int)+1:=by rw [IntKind.wrap_i64]; omega
   have hd2:decide (j<rs.length)=true:=decide_eq_true hlt
   have hjl:(j:Int)<(rs.length:Int):=by omega
   obtain ⟨b,off,k,o,n,v,A1,m1,c1,k2,o2,n2,v2,A2,m2,c2,rfl,hb1,hL1,hL2,y0,y1,y2,y3,y4,y5,y6,y7,y8,y9⟩:=(HP.out.below' HBW.out hB).at_ j hlt
   have hO4:=one_new wr #[.int .i64 k,.int .i64 o,.string n,.int .i64 v,.slice A1 m1 c1,.int .i64 k2,.int .i64 o2,.string n2,.int .i64 v2,.slice A2 m2 c2] 47
   have HE1:Hid (∀ W,Below wr.heap.size wr W→Calls Tryz.prog 41 #[.agg (exC k o n v A1 m1 c1).toArray,.slice Ab bs.length cb] W (Ret (ansV (evalE bs rs[j].cond)) W)):=Lib.hid (fun W hW=>HEV.out rs[j].cond B _ wr W HBW.out hW hL1 hB)
   have HE2:Hid (∀ W,Below wr.heap.size wr W→Calls Tryz.prog 41 #[.agg (exC k2 o2 n2 v2 A2 m2 c2).toArray,.slice Ab bs.length cb] W (Ret (ansV (evalE bs rs[j].key)) W)):=Lib.hid (fun W hW=>HEV.out rs[j].key B _ wr W HBW.out hW hL2 hB)
   have HNX:Hid (keyR bs rs[j]=none→RkAt bs rs (j+1)):=Lib.hid (fun h=>rk_none hrk.out hlt h)
   have HYS:Hid (∀ q,keyR bs rs[j]=some q→rankR rs bs=((j:Int),q)):=Lib.hid (fun q h=>rk_some hrk.out hlt h)
   have HN1:Hid (∀ f,evalE bs rs[j].cond=.er f→f≠0):=Lib.hid (fun f h=>evalE_ne _ _ _ h)
   have HN2:Hid (∀ f,evalE bs rs[j].key=.er f→f≠0):=Lib.hid (fun f h=>evalE_ne _ _ _ h)
   have HKR:Hid (keyR bs rs[j]=match evalE bs rs[j].cond with | .er _=>none | .ok n=>if n=1 then (match evalE bs rs[j].key with | .er _=>none | .ok k=>some k) else none):=Lib.hid rfl
   generalize keyR bs rs[j]=kr at HNX HYS HKR
   unfold exC ansV Ret at HE1 HE2
   have hzw:=Nat.lt_of_lt_of_le hXB hb.size
   clear hb hrk hL1 hL2
   go_upto_region 4 with fail
   clear y0 y1 y2 y3 y4 y5 y6 y7 y8 y9
   generalize wr.alloc _=w4 at hO4 ⊢
   obtain ⟨q0,q1,q2,q3,q4,q5,q6,q7,q8,q9⟩:=bx10 hO4.fst
   generalize evalE bs rs[j].cond=ac at HE1 HN1 HKR
   generalize evalE bs rs[j].key=ak at HE2 HN2 HKR
   cases ac with
   | er f=>
    have hf0:=HN1.out f rfl
    have e1:((f:Int) != 0)=true:=by simpa using hf0
    have e2:(f != 0)=true:=by simpa using hf0
    have e3:((f:Int) == 0)=false:=by simpa using hf0
    have e4:(f == 0)=false:=by simpa using hf0
    simp only [Ans.n,Ans.f] at HE1
    clear hf0
    go_wp2_with fail
    refine (HE1.out _ hO4.below).mono ?_
    rintro e w5 ⟨rfl,hb5⟩
    clear q0 q1 q2 q3 q4 q5 q6 q7 q8 q9
    replace hO4:=hO4.next hb5
    clear hb5
    have HKV:Hid (kr=none):=Lib.hid (by rw [HKR.out] <;> rfl)
    have HBN:=Lib.hid (HB.out.trans (hO4.below.mono HB.out.size))
    clear hO4
    go_wp2_with fail
    exact ⟨⟨j+1,by go_num,by omega,Lib.hid (HNX.out HKV.out),HBN.out⟩,by simp [intOf]; omega⟩
   | ok n1=>
    simp only [Ans.n,Ans.f] at HE1
    by_cases h1:n1=1
    rotate_left
    ·have e1:(n1 != 1)=true:=by simpa using h1
     have HKV0:Hid (kr=none):=Lib.hid (by rw [HKR.out]; simp only; rw [if_neg h1])
     clear h1
     go_wp2_with fail
     refine (HE1.out _ hO4.below).mono ?_
     rintro e w5 ⟨rfl,hb5⟩
     clear q0 q1 q2 q3 q4 q5 q6 q7 q8 q9
     replace hO4:=hO4.next hb5
     clear hb5
     have HKV:Hid (kr=none):=Lib.hid (HKV0.out)
     have HBN:=Lib.hid (HB.out.trans (hO4.below.mono HB.out.size))
     clear hO4
     go_wp2_with fail
     exact ⟨⟨j+1,by go_num,by omega,Lib.hid (HNX.out HKV.out),HBN.out⟩,by simp [intOf]; omega⟩
    ·subst h1
     go_wp2_with fail
     refine (HE1.out _ hO4.below).mono ?_
     rintro e w5 ⟨rfl,hb5⟩
     clear q0 q1 q2 q3 q4 q5 q6 q7 q8 q9
     replace hO4:=hO4.next hb5
     clear hb5
     obtain ⟨q0,q1,q2,q3,q4,q5,q6,q7,q8,q9⟩:=bx10 hO4.fst
     cases ak with
     | er g=>
      have hg0:=HN2.out g rfl
      have e5:((g:Int) == 0)=false:=by simpa using hg0
      have e6:(g == 0)=false:=by simpa using hg0
      simp only [Ans.n,Ans.f] at HE2
      clear hg0
      go_wp2_with fail
      refine (HE2.out _ hO4.below).mono ?_
      rintro e w6 ⟨rfl,hb6⟩
      clear q0 q1 q2 q3 q4 q5 q6 q7 q8 q9
      replace hO4:=hO4.next hb6
      clear hb6
      have HKV:Hid (kr=none):=Lib.hid (by rw [HKR.out] <;> rfl)
      have HBN:=Lib.hid (HB.out.trans (hO4.below.mono HB.out.size))
      clear hO4
      go_wp2_with fail
      exact ⟨⟨j+1,by go_num,by omega,Lib.hid (HNX.out HKV.out),HBN.out⟩,by simp [intOf]; omega⟩
     | ok kv=>
      simp only [Ans.n,Ans.f] at HE2
      go_wp2_with fail
      refine (HE2.out _ hO4.below).mono ?_
      rintro e w6 ⟨rfl,hb6⟩
      clear q0 q1 q2 q3 q4 q5 q6 q7 q8 q9
      replace hO4:=hO4.next hb6
      clear hb6
      have HV:Hid (rankR rs bs=((j:Int),kv)):=Lib.hid (HYS.out kv (by rw [HKR.out] <;> rfl))
      have hbn:=HB.out.trans (hO4.below.mono HB.out.size)
      have d0:=(hbn.cell (p:=⟨RB,0,none⟩) hRB2).trans D0.out
      have d1:=(hbn.cell (p:=⟨RB,1,none⟩) hRB2).trans D1.out
      have g0:=(hbn.frozen (p:=⟨RB,0,none⟩) hRB2).trans G0.out
      have g1:=(hbn.frozen (p:=⟨RB,1,none⟩) hRB2).trans G1.out
      have hbw:=HB3.out.trans (hbn.mono HB3.out.size)
      clear hbn hO4
      go_wp2_with fail
      obtain ⟨s0,s1⟩:=set2 d0 d1 (.int .i64 (j:Int)) (.int .i64 kv)
      have hby:=(hbw.setCell (p:=⟨RB,0,none⟩) hRB (.int .i64 (j:Int))).setCell (p:=⟨RB,1,none⟩) hRB (.int .i64 kv)
      clear d0 d1 g0 g1
      generalize World.setCell _ _ _=w9 at s0 s1 hby ⊢
      refine bodyPost_ret (v:=.agg #[.int .i64 (j:Int),.int .i64 kv]) (results_cell1 rfl rfl (by go_simp)) rfl ⟨by rw [HV.out],hby⟩
  ·have hd1:decide ((j:Int)<(rs.length:Int))=false:=decide_eq_false (by omega)
   have hd2:decide (j<rs.length)=false:=decide_eq_false hlt
   have HV:Hid (rankR rs bs=((rs.length:Int),0)):=Lib.hid (rk_end hrk.out (by omega))
   have x0:=(hb.cell (p:=⟨w.heap.size,0,none⟩) hXB).trans X0.out
   have d0:=(hb.cell (p:=⟨RB,0,none⟩) hRB2).trans D0.out
   have d1:=(hb.cell (p:=⟨RB,1,none⟩) hRB2).trans D1.out
   have g0:=(hb.frozen (p:=⟨RB,0,none⟩) hRB2).trans G0.out
   have g1:=(hb.frozen (p:=⟨RB,1,none⟩) hRB2).trans G1.out
   have hbw:=HBW.out
   clear hrk
   go_wp2_with fail
   obtain ⟨s0,s1⟩:=set2 d0 d1 (.int .i64 (rs.length:Int)) (.int .i64 0)
   have hby:=(hbw.setCell (p:=⟨RB,0,none⟩) hRB (.int .i64 (rs.length:Int))).setCell (p:=⟨RB,1,none⟩) hRB (.int .i64 0)
   clear d0 d1 g0 g1
   generalize World.setCell _ _ _=w9 at s0 s1 hby ⊢
   refine bodyPost_ret (v:=.agg #[.int .i64 (rs.length:Int),.int .i64 0]) (results_cell1 rfl rfl (by go_simp)) rfl ⟨by rw [HV.out],hby⟩
end Go.Proofs.YtedpopbaipnamaaGreatDoor

namespace Go.Proofs.YtedpopbaipnamaaGreatDoor
open Go.RowKit
set_option maxRecDepth 100000 in
theorem fit1_any (na nb:ByteArray) (ta tb va vb:Int) (w:World) :
  Calls Tryz.prog 40 #[.agg #[.string na,.int .i64 ta,.int .i64 va],.agg #[.string nb,.int .i64 tb,.int .i64 vb]] w (Ret (.bool (fitB ⟨nb,tb⟩ ⟨na,ta,va⟩)) w):=by
 have key:∀ b:Bool,b=fitB ⟨nb,tb⟩ ⟨na,ta,va⟩→Ending.returned (.bool b)=Ending.returned (.bool (fitB ⟨nb,tb⟩ ⟨na,ta,va⟩)):=fun b h=>by rw [h]
 have hn:(na == nb)=(na.toList == nb.toList):=by rw [beq_toListBytes]
 have hO:=two_new w #[.string na,.int .i64 ta,.int .i64 va] #[.string nb,.int .i64 tb,.int .i64 vb] 50 50
 unfold Ret
 go_enter Tryz.func40,Tryz.ntmps40
 go_wp2_with fail
 all_goals (go_ret; refine ⟨key _ ?_,(two_new w _ _ _ _).below⟩; unfold fitB; dsimp only; rw [hn]; clear hn hO; simp_all)
 ·rw [Bool.eq_iff_iff]; simp; omega
 ·omega
end Go.Proofs.YtedpopbaipnamaaGreatDoor

namespace Go.Proofs.YtedpopbaipnamaaGreatDoor
open Go.RowKit
def eqF (l ks:List Bd):Bool:=l.length == ks.length && (ks.zip l).all fun x=>fitB ⟨x.1.name,x.1.ty⟩ x.2
theorem eqF_kd (l:List Bd):eqF l kdB=fits l:=by
 unfold eqF fits
 rw [show kdB.length=11 from rfl]
 congr 1
 have:∀ (ks:List Kd) (l:List Bd),(((ks.map fun k=>(⟨k.name,k.ty,0⟩:Bd)).zip l).all fun x=>fitB ⟨x.1.name,x.1.ty⟩ x.2)=(ks.zip l).all fun x=>fitB x.1 x.2:=by
  intro ks
  induction ks with
  | nil=>intro l; rfl
  | cons k ks ih=>
   intro l
   cases l with
   | nil=>rfl
   | cons b l=>simp only [List.map_cons,List.zip_cons_cons,List.all_cons,ih]
 exact this kds l
theorem eqF_len {l ks:List Bd} (h:l.length≠ks.length):eqF l ks=false:=by
 unfold eqF
 rw [show (l.length == ks.length)=false from by simpa using h]; rfl
theorem eqF_no {l ks:List Bd} {k:Nat} (h1:k<l.length) (h2:k<ks.length) (hf:fitB ⟨ks[k].name,ks[k].ty⟩ l[k]=false):eqF l ks=false:=by
 unfold eqF
 rw [Bool.and_eq_false_iff]
 right
 rw [List.all_eq_false]
 have h3:k<(ks.zip l).length:=by rw [List.length_zip]; omega
 refine ⟨(ks[k],l[k]),?_,by simpa using hf⟩
 have:=List.getElem_mem h3
 rwa [List.getElem_zip] at this
theorem eqF_yes {l ks:List Bd} (h:l.length=ks.length) (hf:∀ (k:Nat) (h1:k<l.length) (h2:k<ks.length),fitB ⟨ks[k].name,ks[k].ty⟩ l[k]=true):eqF l ks=true:=by
 unfold eqF
 rw [show (l.length == ks.length)=true from by simpa using h,Bool.true_and,List.all_eq_true]
 intro x hx
 obtain ⟨k,hk,rfl⟩:=List.getElem_of_mem hx
 rw [List.length_zip] at hk
 rw [List.getElem_zip]
 exact hf k (by omega) (by omega)
set_option maxRecDepth 100000 in
set_option maxHeartbeats 3200000 in
theorem eqf_any (A1 A2:Option Addr) (c1 c2 B1 B2:Nat) (l ks:List Bd) (w:World) (h1:RdB w B1 A1 l) (hB1:B1≤w.heap.size) (h2:RdB w B2 A2 ks) (hB2:B2≤w.heap.size) (hl:l.length≤9223372036854775807) :
  Calls Tryz.prog 39 #[.slice A1 l.length c1,.slice A2 ks.length c2,.func (.func 40) #[] #[]] w (Ret (.bool (eqF l ks)) w):=by
 have H1:=Lib.hid h1
 have H2:=Lib.hid h2
 unfold Ret
 clear h1 h2
 by_cases hne:l.length=ks.length
 rotate_left
 ·have e1:((l.length:Int) != (ks.length:Int))=true:=by simpa using (by omega:¬ (l.length:Int)=(ks.length:Int))
  have e2:(l.length != ks.length)=true:=by simpa using hne
  have HV:=Lib.hid (eqF_len hne)
  clear hne
  go_enter Tryz.func39,Tryz.ntmps39
  go_wp2_with fail
  go_ret
  exact ⟨by rw [HV.out]; rfl,Below.refl _ _⟩
 ·have e1:((l.length:Int) != (ks.length:Int))=false:=by simpa using (by omega:(l.length:Int)=(ks.length:Int))
  have e2:(l.length != ks.length)=false:=by simpa using hne
  have HNE:=Lib.hid hne
  clear hne
  go_enter Tryz.func39,Tryz.ntmps39
  go_wp2_with fail
  go_loopw [6,17] (fun r i wr=>r=.bool false∧∃ k:Nat,i=.int .i64 (k:Nat)∧k≤l.length∧Hid (∀ (j:Nat) (h1:j<l.length) (h2:j<ks.length),j<k→fitB ⟨ks[j].name,ks[j].ty⟩ l[j]=true)∧Below w.heap.size w wr) (fun _ i _=>l.length - (intOf i).toNat)
  case atStart=>exact ⟨rfl,0,rfl,by omega,Lib.hid (fun j h1 h2 h=>by omega),Below.refl _ _⟩
  case round=>
   obtain ⟨rfl,k,rfl,hk,hall,hb⟩:=hrel
   have hk0:(0:Int)≤(k:Int):=by omega
   by_cases hlk:k<l.length
   ·have hd1:decide ((k:Int)<(l.length:Int))=true:=decide_eq_true (by omega)
    have hwr1:IntKind.i64.wrap ((k:Int)+1)=(k:Int)+1:=by rw [IntKind.wrap_i64]; omega
    have hd2:decide (k<l.length)=true:=decide_eq_true hlk
    have hkl:(k:Int)<(l.length:Int):=by omega
    have hlk2:k<ks.length:=by have:=HNE.out; omega
    have hkl2:(k:Int)<(ks.length:Int):=by omega
    have hR1:RdB wr B1 A1 l:=Rd.below' H1.out hb hB1
    have hR2:RdB wr B2 A2 ks:=Rd.below' H2.out hb hB2
    obtain ⟨b,off,rfl,hbB,y0,y1,y2⟩:=hR1.at_ hlk
    obtain ⟨b',off',rfl,hbB',z0,z1,z2⟩:=hR2.at_ hlk2
    have HYES:Hid (fitB ⟨ks[k].name,ks[k].ty⟩ l[k]=true→∀ (j:Nat) (h1:j<l.length) (h2:j<ks.length),j<k+1→fitB ⟨ks[j].name,ks[j].ty⟩ l[j]=true):=Lib.hid (fun e j h1 h2 hjk=>by
     by_cases e2:j=k
     ·subst e2; exact e
     ·exact hall.out j h1 h2 (by omega))
    have HNO:Hid (fitB ⟨ks[k].name,ks[k].ty⟩ l[k]=false→eqF l ks=false):=Lib.hid (fun e=>eqF_no hlk hlk2 e)
    have hO:=two_new wr #[.string l[k].name,.int .i64 l[k].ty,.int .i64 l[k].val] #[.string ks[k].name,.int .i64 ks[k].ty,.int .i64 ks[k].val] 50 50
    have HF:Hid (∀ W,Calls Tryz.prog 40 #[.agg #[.string l[k].name,.int .i64 l[k].ty,.int .i64 l[k].val],.agg #[.string ks[k].name,.int .i64 ks[k].ty,.int .i64 ks[k].val]] W (Ret (.bool (fitB ⟨ks[k].name,ks[k].ty⟩ l[k])) W)):=Lib.hid (fun W=>fit1_any _ _ _ _ _ _ W)
    have HB:=Lib.hid hb
    generalize hq:fitB ⟨ks[k].name,ks[k].ty⟩ l[k]=q at HF HYES HNO
    have HQ:=Lib.hid hq
    have z0a:=fun ob=>(World.cell?_alloc_lt wr ob ⟨b',off'+k * 3,none⟩ (World.block_lt_of_cell? _ _ z0)).trans z0
    have z1a:=fun ob=>(World.cell?_alloc_lt wr ob ⟨b',off'+k * 3+1,none⟩ (World.block_lt_of_cell? _ _ z1)).trans z1
    have z2a:=fun ob=>(World.cell?_alloc_lt wr ob ⟨b',off'+k * 3+2,none⟩ (World.block_lt_of_cell? _ _ z2)).trans z2
    generalize l[k].name=nmk at y0 HF hO
    generalize l[k].ty=tyk at y1 HF hO
    generalize l[k].val=vk at y2 HF hO
    generalize ks[k].name=nmj at z0a HF hO
    generalize ks[k].ty=tyj at z1a HF hO
    generalize ks[k].val=vj at z2a HF hO
    unfold Ret at HF
    clear hb hall hq hR1 hR2 z0 z1 z2
    go_upto_region 7 with fail
    clear y0 y1 y2 z0a z1a z2a
    generalize World.alloc _ _=w4 at hO ⊢
    obtain ⟨x0,x1,x2⟩:=bx3 hO.fst
    obtain ⟨u0,u1,u2⟩:=bx3 hO.snd
    have HO:=Lib.hid (HB.out.trans (hO.below.mono HB.out.size))
    clear hO
    cases q with
    | true=>
     go_wp2_with (go_at_call 40; refine (HF.out _).mono ?_; rintro e w5 ⟨rfl,hb5⟩)
     exact ⟨⟨rfl,k+1,by go_num,by omega,Lib.hid (HYES.out (by first | rfl | exact True.intro)),HO.out.trans (hb5.mono HO.out.size)⟩,by simp [intOf]; omega⟩
    | false=>
     go_wp2_with (go_at_call 40; refine (HF.out _).mono ?_; rintro e w5 ⟨rfl,hb5⟩)
     go_ret
     exact ⟨by rw [HNO.out (by first | rfl | exact True.intro)]; rfl,HO.out.trans (hb5.mono HO.out.size)⟩
   ·have hd1:decide ((k:Int)<(l.length:Int))=false:=decide_eq_false (by omega)
    have hd2:decide (k<l.length)=false:=decide_eq_false hlk
    have HV:Hid (eqF l ks=true):=Lib.hid (eqF_yes HNE.out fun j h1 h2=>hall.out j h1 h2 (by omega))
    clear hall
    go_wp2_with fail
    go_ret
    exact ⟨by rw [HV.out]; rfl,hb⟩
set_option maxRecDepth 100000 in
set_option maxHeartbeats 1600000 in
theorem fits_any (A:Option Addr) (c B:Nat) (l:List Bd) (w:World) (h:RdB w B A l) (hB:B≤w.heap.size) (hl:l.length≤9223372036854775807) :
  Calls Tryz.prog 18 #[.slice A l.length c] w (Ret (.bool (fits l)) w):=by
 have HK:=Lib.hid (kinds_any w)
 have H:=Lib.hid h
 have HE:=Lib.hid (eqF_kd l)
 unfold KdsR at HK
 unfold Ret
 clear h
 obtain ⟨ks,hks⟩:∃ ks,ks=kdB:=⟨_,rfl⟩
 rw [← hks] at HK HE
 clear hks
 go_enter Tryz.func18,Tryz.ntmps18
 go_wp2_with fail
 refine HK.out.mono ?_
 rintro e w1 ⟨A2,c2,rfl,hb1,hR⟩
 have HC:=Lib.hid (eqf_any A A2 c c2 B w1.heap.size l ks w1 (Rd.below' H.out hb1 hB) (Nat.le_trans hB hb1.size) hR (Nat.le_refl _) hl)
 unfold Ret at HC
 clear hR HK
 go_wp2_with fail
 refine HC.out.mono ?_
 rintro e w2 ⟨rfl,hb2⟩
 clear HC
 go_wp2_with fail
 go_ret
 exact ⟨by rw [HE.out]; rfl,hb1.trans (hb2.mono hb1.size)⟩
end Go.Proofs.YtedpopbaipnamaaGreatDoor
