/- The reference lexer: Tokens, walked. Conditions: the text is not too long for a slice. -/
import Derived.Test.YtmbffkemfepekaaGreatDoorPtTd
import Derived.Test.YtmbffkemfepekaaGreatDoorPtLx5
import Derived.Test.YtmbffkemfepekaaGreatDoorPtBase
import Derived.BigRegion
import Derived.Test.YtmbffkemfepekaaGreatDoorPtTr
import Derived.Test.YtmbffkemfepekaaGreatDoorPtRfb
namespace Go.Proofs.YtmbffkemfepekaaGreatDoor
open Go.RowKit
theorem step_ap2 {P:Program} {ops:Array Oper} {o:Oper} {a:Act} {w w':World} {K:Act→World→Prop} {Q:Exit→Act→World→Prop} {E:Prop} {v' v y:Value}
  (hg:o.guard=none) (s x:Operand) (t:TypeId) (hop:o.op=Op.call { callee:=Callee.builtin Builtin.append,args:=#[s,x],argTypes:=#[t,t] }) (hs:a.eval s=v) (hx:a.eval x=y)
  (hrun:(Builtin.append_ #[t,t] o.type #[v,y]).run P w=.ok v' w') (h:K (a.put o.dst v') w'):if Region.wanted o (yielded ops a.tmps)=true then Oper.wp P o a w K Q else E:=by
 rw [if_pos (by simp [Region.wanted,hg])]
 unfold Oper.wp
 simp [execOp,hop,resolve,invoke,builtin,hs,hx,hrun,Result.andThen]
 exact h
/-- What the reference's Tokens gives. -/
def TksR.Rgv (r:TksR) (w:World):Ending→World→Prop:=fun e W=>Below w.heap.size w W∧match r with
 | .er a f=>∃ v,e=.returned (.tuple #[v,.int .i64 (a:Nat),.int .i64 (f:Nat)])∧OwnT W w.heap.size v []
 | .ok l=>∃ v,e=.returned (.tuple #[v,.int .i64 0,.int .i64 0])∧OwnT W w.heap.size v l
theorem ownT_new (w:World):OwnT (w.alloc (.cells #[] 69)) w.heap.size (.slice (some ⟨w.heap.size,0,none⟩) 0 0) []:=
 ⟨rfl,.inr ⟨w.heap.size,0,#[],rfl,Nat.le_refl _,heap_alloc_new w _,Nat.le_refl _,Nat.zero_le _,rfl,rfl⟩⟩
theorem OwnT.more {W:World} {b b':Nat} {v:Value} {l:List Tk} (h:OwnT W b v l) (hb:b'≤b):OwnT W b' v l:=by
 obtain ⟨h1,h2 | ⟨g,cap,cur,e,h3,h4⟩⟩:=h
 ·exact ⟨h1,.inl h2⟩
 ·exact ⟨h1,.inr ⟨g,cap,cur,e,Nat.le_trans hb h3,h4⟩⟩
theorem str_at (s:ByteArray) (i:Nat) (h:i<s.size) (W:World):(Instr.index 9 (.string s) (.int .i64 (i:Nat))).run Tryz.prog W=.ok (.int .u8 ((s[i]'h).toNat:Nat)) W:=by
 rw [run_index_string _ _ _ _ _ Tryz.underlying9,dif_pos ⟨by omega,by omega⟩]
 simp
theorem cells4_keep {B:Nat} {W W':World} {g:Nat} {u0 u1 u2 u3:Value} (hb:Below B W W') (h:g<B) (hc:W.cell? ⟨g,0,none⟩=some u0∧W.cell? ⟨g,1,none⟩=some u1∧W.cell? ⟨g,2,none⟩=some u2∧W.cell? ⟨g,3,none⟩=some u3) :
  W'.cell? ⟨g,0,none⟩=some u0∧W'.cell? ⟨g,1,none⟩=some u1∧W'.cell? ⟨g,2,none⟩=some u2∧W'.cell? ⟨g,3,none⟩=some u3:=
 ⟨(hb.cell (p:=⟨g,0,none⟩) h).trans hc.1,(hb.cell (p:=⟨g,1,none⟩) h).trans hc.2.1,(hb.cell (p:=⟨g,2,none⟩) h).trans hc.2.2.1,(hb.cell (p:=⟨g,3,none⟩) h).trans hc.2.2.2⟩
theorem cells4_far {W W':World} {row:Option Nat} {g:Nat} {u0 u1 u2 u3:Value} (hg:W.grownBy W' row) (h:g<W.heap.size) (hne:some g≠row) (hc:W.cell? ⟨g,0,none⟩=some u0∧W.cell? ⟨g,1,none⟩=some u1∧W.cell? ⟨g,2,none⟩=some u2∧W.cell? ⟨g,3,none⟩=some u3) :
  W'.cell? ⟨g,0,none⟩=some u0∧W'.cell? ⟨g,1,none⟩=some u1∧W'.cell? ⟨g,2,none⟩=some u2∧W'.cell? ⟨g,3,none⟩=some u3:=
 ⟨(hg.cell_far ⟨g,0,none⟩ h hne).trans hc.1,(hg.cell_far ⟨g,1,none⟩ h hne).trans hc.2.1,(hg.cell_far ⟨g,2,none⟩ h hne).trans hc.2.2.1,(hg.cell_far ⟨g,3,none⟩ h hne).trans hc.2.2.2⟩
/-- What lies ahead of a token, byte by byte. -/
theorem skp_blank (s:ByteArray) (i:Nat) (h:i<s.size) (hc:(s[i]'h).toNat=32∨(s[i]'h).toNat=9∨(s[i]'h).toNat=10):i+skipN false (s.data.toList.drop i)=i+1+skipN false (s.data.toList.drop (i+1)):=by
 rw [run_at s i h,skipN]
 rcases hc with hc | hc | hc
 ·rw [if_neg (by omega),if_neg (by simp),if_neg (by omega),if_pos (.inl hc)]; omega
 ·rw [if_neg (by omega),if_neg (by simp),if_neg (by omega),if_pos (.inr hc)]; omega
 ·rw [if_pos hc]; omega
theorem skip_hash (s:ByteArray) (i:Nat) (h:i<s.size) (hc:(s[i]'h).toNat=35):i+skipN true (s.data.toList.drop i)=i+skipN false (s.data.toList.drop i):=by
 rw [run_at s i h,skipN,skipN,if_neg (by omega),if_pos rfl,if_neg (by omega),if_neg (by simp),if_pos hc]
theorem skip_in (s:ByteArray) (i:Nat) (h:i<s.size) (hc:(s[i]'h).toNat≠10):i+skipN true (s.data.toList.drop i)=i+1+skipN true (s.data.toList.drop (i+1)):=by
 rw [run_at s i h,skipN,if_neg hc,if_pos rfl]; omega
theorem skip_out (s:ByteArray) (i:Nat) (h:i<s.size) (hc:(s[i]'h).toNat=10):i+skipN true (s.data.toList.drop i)=i+skipN false (s.data.toList.drop i):=by
 rw [run_at s i h,skipN,skipN,if_pos hc,if_pos hc]
theorem skip_end (b:Bool) (s:ByteArray) (i:Nat) (h:¬ i<s.size):skipN b (s.data.toList.drop i)=0:=by
 rw [List.drop_of_length_le (by rw [Array.length_toList]; show s.size≤i; omega)]
 cases b <;> rfl
theorem skip_not (s:ByteArray) (i:Nat) (h:i<s.size) (h1:(s[i]'h).toNat≠32) (h2:(s[i]'h).toNat≠9) (h3:(s[i]'h).toNat≠10) (h4:(s[i]'h).toNat≠35):skipN false (s.data.toList.drop i)=0:=by
 rw [run_at s i h,skipN,if_neg h3,if_neg (by simp),if_neg h4,if_neg (by omega)]
set_option maxRecDepth 100000 in
set_option maxHeartbeats 6400000 in
theorem rtoks_any (s:ByteArray) (hs:s.size≤140737488355328) (w:World):Calls Tryz.prog 24 #[.string s] w (TksR.Rgv (toksE s) w):=by
 have HE:Hid (toksE s=if 4000<s.size then .er 0 4 else toksF s (s.size+1) (skipN false s.data.toList) []):=Lib.hid rfl
 generalize toksE s=E at HE ⊢
 by_cases h4:4000<s.size
 ·have g1:decide ((s.size:Int) > 4000)=true:=decide_eq_true (by omega)
  have g2:decide (4000<(s.size:Int))=true:=decide_eq_true (by omega)
  have g3:decide (4000<s.size)=true:=decide_eq_true h4
  have HV:Hid (E=.er 0 4):=Lib.hid (by rw [HE.out,if_pos h4])
  clear HE h4
  go_enter Tryz.func24,Tryz.ntmps24
  go_wp2_with fail
  go_ret3
  rw [HV.out]
  exact ⟨below_alloc _ _,_,rfl,ownT_new w⟩
 ·have g1:decide ((s.size:Int) > 4000)=false:=decide_eq_false (by omega)
  have g2:decide (4000<(s.size:Int))=false:=decide_eq_false (by omega)
  have g3:decide (4000<s.size)=false:=decide_eq_false h4
  have HV0:Hid (E=toksF s (s.size+1) (0+skipN false (s.data.toList.drop 0)) []):=Lib.hid (by rw [HE.out,if_neg h4,Nat.zero_add,List.drop_zero])
  have hs4:s.size≤4000:=by omega
  clear HE h4
  obtain ⟨i0,hi,hz0,hz1,hz2⟩:∃ i0,Tryz.prog.info? 69=some i0∧i0.zero=some (.agg #[.int .i64 0,.string ⟨#[]⟩,.int .i64 0,.int .i64 0])∧i0.size=4∧i0.bytes=40:=by
   have h:=tokInfo
   cases hh:Tryz.prog.info? 69 with
   | none=>rw [hh] at h; cases h
   | some i0=>rw [hh] at h; simp at h; exact ⟨i0,rfl,h.1,h.2.1,h.2.2⟩
  have hO5:=ownT_new w
  have hbl:=below_alloc w (.cells #[] 69)
  go_enter Tryz.func24,Tryz.ntmps24
  go_upto_region 4 with fail
  generalize w.alloc _=w1 at hO5 hbl ⊢
  go_wp2_with fail
  go_loopw [5,6] (fun vv iv wr=>∃ (i f:Nat) (acc:List Tk) (A:Option Addr) (m c:Nat),vv=.slice A m c∧m=acc.length∧iv=.int .i64 (i:Nat)∧i≤s.size∧s.size<i+f∧acc.length≤i∧Hid (E=toksF s f (i+skipN false (s.data.toList.drop i)) acc)∧OwnT wr w.heap.size (.slice A m c) acc∧Below w.heap.size w wr) (fun _ iv _=>s.size - (intOf iv).toNat)
  case atStart=>exact ⟨0,s.size+1,[],_,0,0,rfl,rfl,rfl,Nat.zero_le _,by omega,Nat.zero_le _,HV0,hO5,hbl⟩
  case round=>
   obtain ⟨i,f,acc,A,m,c,rfl,rfl,rfl,hi1,hf,hal,HV,hown,hbw⟩:=hrel
   clear hO5 hbl
   have hi0:(0:Int)≤(i:Int):=by omega
   have hwr1:IntKind.i64.wrap ((i:Int)+1)=(i:Int)+1:=by rw [IntKind.wrap_i64]; omega
   have HOW:=Lib.hid hown
   have HBZ:=Lib.hid hbw
   by_cases hlt:i<s.size
   ·have d1:decide ((i:Int)<(s.size:Int))=true:=decide_eq_true (by omega)
    have d2:decide (i<s.size)=true:=decide_eq_true hlt
    have d3:(i:Int)<(s.size:Int):=by omega
    have HSB:=Lib.hid (skp_blank s i hlt)
    have HSH:=Lib.hid (skip_hash s i hlt)
    have HSN:=Lib.hid (skip_not s i hlt)
    have HC1:=Lib.hid (fun W=>rone_any s i hlt hs W)
    have HLE:=Lib.hid (fun (k:Int) (n v:Nat) (h:tok1 (s.data.toList.drop i)=.ok k n v)=>tok1_len (s[i]'hlt) (s.data.toList.drop (i+1)) k n v (by rw [← run_at s i hlt]; exact h))
    have HER:=Lib.hid (fun e=>tok1_er (s.data.toList.drop i) e)
    have hlen:(s.data.toList.drop (i+1)).length+1=s.size - i:=by
     rw [List.length_drop,Array.length_toList]
     have:s.data.size=s.size:=rfl
     omega
    rw [hlen] at HLE
    obtain ⟨ch,hch⟩:∃ ch:Nat,ch=(s[i]'hlt).toNat:=⟨_,rfl⟩
    have HCH:=Lib.hid hch
    rw [← hch] at HSB HSH HSN
    have hat:∀ W,(Instr.index 9 (.string s) (.int .i64 (i:Nat))).run Tryz.prog W=.ok (.int .u8 (ch:Nat)) W:=fun W=>by rw [hch]; exact str_at s i hlt W
    clear hlen hown hbw hch
    by_cases hbk:ch=32∨ch=9∨ch=10
    ·have HV2:Hid (E=toksF s f (i+1+skipN false (s.data.toList.drop (i+1))) acc):=Lib.hid (by rw [HV.out,HSB.out hbk])
     clear HV HSB HSH HSN HC1 HLE HER
     by_cases b32:ch=32
     ·subst b32
      go_wp2_with fail
      exact ⟨⟨i+1,f,acc,A,acc.length,c,rfl,rfl,by go_num,by omega,by omega,by omega,HV2,HOW.out,HBZ.out⟩,by simp [intOf]; omega⟩
     ·by_cases b9:ch=9
      ·subst b9
       go_wp2_with fail
       exact ⟨⟨i+1,f,acc,A,acc.length,c,rfl,rfl,by go_num,by omega,by omega,by omega,HV2,HOW.out,HBZ.out⟩,by simp [intOf]; omega⟩
      ·obtain rfl:ch=10:=by omega
       go_wp2_with fail
       exact ⟨⟨i+1,f,acc,A,acc.length,c,rfl,rfl,by go_num,by omega,by omega,by omega,HV2,HOW.out,HBZ.out⟩,by simp [intOf]; omega⟩
    ·have n32:((ch:Int) == 32)=false:=by simpa using (by omega:¬ (ch:Int)=32)
     have n9:((ch:Int) == 9)=false:=by simpa using (by omega:¬ (ch:Int)=9)
     have n10:((ch:Int) == 10)=false:=by simpa using (by omega:¬ (ch:Int)=10)
     have m32:(ch == 32)=false:=by simpa using (by omega:¬ ch=32)
     have m9:(ch == 9)=false:=by simpa using (by omega:¬ ch=9)
     have m10:(ch == 10)=false:=by simpa using (by omega:¬ ch=10)
     have HNB:=Lib.hid hbk
     clear hbk
     by_cases b35:ch=35
     ·have c35:((ch:Int) == 35)=true:=by simpa using (by omega:(ch:Int)=35)
      have e35:(ch == 35)=true:=by simpa using b35
      obtain ⟨T,hT⟩:∃ T,T=i+skipN false (s.data.toList.drop i):=⟨_,rfl⟩
      have HT:Hid (i+skipN true (s.data.toList.drop i)=T):=Lib.hid (by rw [HSH.out b35,hT])
      have HVT:Hid (E=toksF s f T acc):=Lib.hid (by rw [HV.out,hT])
      have HC35:=Lib.hid b35
      clear HV HSB HSH HSN HC1 HLE HER hT b35
      go_wp2_with fail
      go_loopw [6] (fun qv wq=>wq=wr∧∃ q:Nat,qv=.int .i64 (q:Nat)∧i≤q∧q≤s.size∧Hid (q+skipN true (s.data.toList.drop q)=T)) (fun qv _=>s.size - (intOf qv).toNat)
      case atStart=>exact ⟨rfl,i,rfl,Nat.le_refl _,hi1,HT⟩
      case round=>
       obtain ⟨rfl,q,rfl,hiq,hqs,HQ⟩:=hrel
       have hq0:(0:Int)≤(q:Int):=by omega
       have hwq1:IntKind.i64.wrap ((q:Int)+1)=(q:Int)+1:=by rw [IntKind.wrap_i64]; omega
       by_cases hqt:q<s.size
       ·have x1:decide ((q:Int)<(s.size:Int))=true:=decide_eq_true (by omega)
        have x2:decide (q<s.size)=true:=decide_eq_true hqt
        have x3:(q:Int)<(s.size:Int):=by omega
        obtain ⟨cq,hcq⟩:∃ cq:Nat,cq=(s[q]'hqt).toNat:=⟨_,rfl⟩
        have HI:=Lib.hid (skip_in s q hqt)
        have HU:=Lib.hid (skip_out s q hqt)
        have HIQ:Hid (q=i→cq=35):=Lib.hid (fun e=>by subst e; rw [hcq,← HCH.out]; exact HC35.out)
        rw [← hcq] at HI HU
        have hqat:∀ W,(Instr.index 9 (.string s) (.int .i64 (q:Nat))).run Tryz.prog W=.ok (.int .u8 (cq:Nat)) W:=fun W=>by rw [hcq]; exact str_at s q hqt W
        clear hcq
        by_cases c10:cq=10
        ·have y1:((cq:Int) != 10)=false:=by simpa using (by omega:(cq:Int)=10)
         have y2:(cq != 10)=false:=by simpa using c10
         have y3:((cq:Int) == 10)=true:=by simpa using (by omega:(cq:Int)=10)
         have y4:(cq == 10)=true:=by simpa using c10
         have hne:q≠i:=fun e=>by have:=HIQ.out e; omega
         have HV2:Hid (E=toksF s f (q+skipN false (s.data.toList.drop q)) acc):=Lib.hid (by rw [HVT.out,← HQ.out,HU.out c10])
         clear c10
         go_wp2_with fail
         exact ⟨⟨q,f,acc,A,acc.length,c,rfl,rfl,rfl,by omega,by omega,by omega,HV2,HOW.out,HBZ.out⟩,by simp [intOf]; omega⟩
        ·have y1:((cq:Int) != 10)=true:=by simpa using (by omega:¬ (cq:Int)=10)
         have y2:(cq != 10)=true:=by simpa using c10
         have y3:((cq:Int) == 10)=false:=by simpa using (by omega:¬ (cq:Int)=10)
         have y4:(cq == 10)=false:=by simpa using c10
         have HQ2:Hid (q+1+skipN true (s.data.toList.drop (q+1))=T):=Lib.hid (by rw [← HI.out c10,HQ.out])
         have c10i:¬ (cq:Int)=10:=by omega
         go_wp2_with fail
         exact ⟨⟨by first | rfl | exact True.intro,q+1,by go_num,by omega,by omega,HQ2⟩,by simp [intOf]; omega⟩
       ·have x1:decide ((q:Int)<(s.size:Int))=false:=decide_eq_false (by omega)
        have x2:decide (q<s.size)=false:=decide_eq_false hqt
        have HV2:Hid (E=toksF s f (q+skipN false (s.data.toList.drop q)) acc):=Lib.hid (by rw [HVT.out,← HQ.out,skip_end true s q hqt,skip_end false s q hqt])
        go_wp2_with fail
        exact ⟨⟨q,f,acc,A,acc.length,c,rfl,rfl,rfl,by omega,by omega,by omega,HV2,HOW.out,HBZ.out⟩,by simp [intOf]; omega⟩
     ·have c35:((ch:Int) == 35)=false:=by simpa using (by omega:¬ (ch:Int)=35)
      have e35:(ch == 35)=false:=by simpa using b35
      obtain ⟨f,rfl⟩:∃ f',f=f'+1:=⟨f - 1,by omega⟩
      have HS0:Hid (skipN false (s.data.toList.drop i)=0):=Lib.hid (HSN.out (by have:=HNB.out; omega) (by have:=HNB.out; omega) (by have:=HNB.out; omega) b35)
      have HV1:Hid (E=match tok1 (s.data.toList.drop i) with
       | .er e=>.er i e
       | .ok k n v=>toksF s f (i+n+skipN false (s.data.toList.drop (i+n))) (acc++[⟨k,subB s i n,v,i⟩])):=Lib.hid (by rw [HV.out,HS0.out,show i+0=i from rfl,toksF,if_pos hlt]; rfl)
      have HC:=Lib.hid (HC1.out wr)
      unfold Ret at HC
      have b35i:¬ (ch:Int)=35:=by omega
      clear HV HSB HSH HSN HC1
      generalize tok1 (s.data.toList.drop i)=R at HC HV1 HLE HER
      cases R with
      | er e=>
       have HV2:Hid (E=.er i e):=Lib.hid HV1.out
       have hne:=HER.out e rfl
       have n0:((e:Nat):Int)≠0:=by omega
       have n1:(((e:Nat):Int) != 0)=true:=by simpa using hne
       have n2:(e != 0)=true:=by simpa using hne
       have n3:(((e:Nat):Int) == 0)=false:=by simpa using hne
       have n4:(e == 0)=false:=by simpa using hne
       have HC2:Hid (Calls Tryz.prog 52 #[.string s,.int .i64 (i:Nat)] wr fun e' W=>e'=.returned (.tuple #[.agg #[.int .i64 0,.string ⟨#[]⟩,.int .i64 0,.int .i64 0],.int .i64 (e:Nat)])∧Below wr.heap.size wr W):=Lib.hid HC.out
       clear HC HV1 HER HLE
       go_wp2_with fail
       refine HC2.out.mono ?_
       rintro e' W1 ⟨rfl,hb1⟩
       have hba:=below_alloc2 hb1.size (.cells #[.int .i64 0,.string ⟨#[]⟩,.int .i64 0,.int .i64 0] 69)
       go_upto_region 13 with fail
       generalize W1.alloc _=W2 at hba ⊢
       have HB2:=Lib.hid (HBZ.out.trans ((hb1.trans hba).mono HBZ.out.size))
       have HOE:=Lib.hid ((ownT_new W2).more HB2.out.size)
       have HBA:=Lib.hid (HB2.out.trans ((below_alloc W2 (.cells #[] 69)).mono HB2.out.size))
       clear hba hb1
       go_wp2_with fail
       go_ret3
       rw [HV2.out]
       exact ⟨HBA.out,_,rfl,HOE.out⟩
      | ok kd n v=>
       obtain ⟨hn1,hn2⟩:=HLE.out kd n v rfl
       have HV2:Hid (E=toksF s f (i+n+skipN false (s.data.toList.drop (i+n))) (acc++[⟨kd,subB s i n,v,i⟩])):=Lib.hid HV1.out
       have HC2:Hid (Calls Tryz.prog 52 #[.string s,.int .i64 (i:Nat)] wr fun e' W=>e'=.returned (.tuple #[.agg #[.int .i64 kd,.string (subB s i n),.int .i64 (v:Nat),.int .i64 (i:Nat)],.int .i64 0])∧Below wr.heap.size wr W):=Lib.hid HC.out
       have hsz:=subB_size s i n (by omega)
       generalize subB s i n=tx at HV2 HC2 hsz
       clear HC HV1 HER HLE
       go_wp2_with fail
       refine HC2.out.mono ?_
       rintro e' W1 ⟨rfl,hb1⟩
       go_upto_region 14 with fail
       subst hsz
       have hA:=bx_new W1 #[.int .i64 kd,.string tx,.int .i64 (v:Nat),.int .i64 (i:Nat)] 69
       have hb2:=hb1.trans (below_alloc2 hb1.size (.cells #[.int .i64 kd,.string tx,.int .i64 (v:Nat),.int .i64 (i:Nat)] 69))
       have hs2:(W1.alloc (.cells #[.int .i64 kd,.string tx,.int .i64 (v:Nat),.int .i64 (i:Nat)] 69)).heap.size=W1.heap.size+1:=by simp
       generalize W1.alloc _=W2 at hA hb2 hs2 ⊢
       have hg8:=hb1.size
       have C0:W2.cell? ⟨W1.heap.size,0,none⟩=some (.int .i64 kd)∧W2.cell? ⟨W1.heap.size,1,none⟩=some (.string tx)∧W2.cell? ⟨W1.heap.size,2,none⟩=some (.int .i64 (v:Nat))∧W2.cell? ⟨W1.heap.size,3,none⟩=some (.int .i64 (i:Nat)):=bx4 hA
       have hO2:W2.ownsRow w.heap.size 69 4 (.slice A acc.length c) acc.length (tkCs acc):=ownsBelow HOW.out hb2
       have HBW:=HBZ.out.trans (hb2.mono HBZ.out.size)
       have hlto:∀ k,(Value.slice A acc.length c).ownBlock=some k→k<wr.heap.size:=fun k e=>(World.ownsRow.lt HOW.out k e).2
       generalize W1.heap.size=b8 at C0 hs2 hg8 ⊢
       obtain ⟨i2,hi2⟩:∃ i2,i2=i+tx.size:=⟨_,rfl⟩
       have hw5:IntKind.i64.wrap ((i:Int)+(tx.size:Int))=(i2:Int):=by rw [IntKind.wrap_i64]; omega
       have hi2s:i2≤s.size:=by omega
       have hi2p:i<i2:=by omega
       have hf2:s.size<i2+f:=by omega
       have HV3:Hid (E=toksF s f (i2+skipN false (s.data.toList.drop i2)) (acc++[⟨kd,tx,v,i⟩])):=Lib.hid (by rw [HV2.out,hi2])
       clear hi2 HV2 hA hb2 hb1 hn1 hn2
       have hdr:Below W2.heap.size W2 W2.drew:=below_drews _ _ 1
       replace HBW:=HBW.trans (hdr.mono HBW.size)
       replace hO2:=ownsBelow hO2 hdr
       clear hdr
       have hb8:b8<W2.drew.heap.size:=by show b8<W2.heap.size; omega
       clear hs2
       refine wp_region_held_drew (S:=fun W=>W.cell? ⟨b8,0,none⟩=some (.int .i64 kd)∧W.cell? ⟨b8,1,none⟩=some (.string tx)∧W.cell? ⟨b8,2,none⟩=some (.int .i64 (v:Nat))∧W.cell? ⟨b8,3,none⟩=some (.int .i64 (i:Nat))) (by kernel_rfl) C0 (fun hHeld=>?_)
       replace C0:W2.drew.cell? ⟨b8,0,none⟩=some (.int .i64 kd)∧W2.drew.cell? ⟨b8,1,none⟩=some (.string tx)∧W2.drew.cell? ⟨b8,2,none⟩=some (.int .i64 (v:Nat))∧W2.drew.cell? ⟨b8,3,none⟩=some (.int .i64 (i:Nat)):=C0
       generalize W2.drew=w0 at C0 HBW hO2 hb8 hHeld ⊢
       refine wpAnyH_take (i:=0) (v:=?_) rfl (by kernel_rfl) (by kernel_rfl) (by kernel_rfl) (fun _ _ _ h=>h) (Or.inl ⟨by kernel_rfl,?_⟩) (by assumption) ?_
       rotate_left
       ·intro w hSw; (try dsimp only at hSw); go_simp; with_reducible rfl
       try simp only [List.getElem_toArray,List.getElem_cons_zero,Act.put,List.setIfInBounds_toArray,List.set_cons_zero,List.set_cons_succ]
       refine wpAnyH_take (i:=1) (v:=?_) rfl (by kernel_rfl) (by kernel_rfl) (by kernel_rfl) (fun _ _ _ h=>h) (Or.inl ⟨by kernel_rfl,?_⟩) (by assumption) ?_
       rotate_left
       ·intro w hSw; (try dsimp only at hSw); go_simp; with_reducible rfl
       try simp only [List.getElem_toArray,List.getElem_cons_succ,List.getElem_cons_zero,Act.put,List.setIfInBounds_toArray,List.set_cons_zero,List.set_cons_succ]
       refine wpAnyH_take (i:=4) (v:=?_) rfl (by kernel_rfl) (by kernel_rfl) (by kernel_rfl) (fun _ _ _ h=>h) (Or.inl ⟨by kernel_rfl,?_⟩) (by assumption) ?_
       rotate_left
       ·intro w hSw; (try dsimp only at hSw); go_simp; with_reducible rfl
       try simp only [List.getElem_toArray,List.getElem_cons_succ,List.getElem_cons_zero,Act.put,List.setIfInBounds_toArray,List.set_cons_zero,List.set_cons_succ]
       refine wpAnyH_take (i:=5) (v:=?_) rfl (by kernel_rfl) (by kernel_rfl) (by kernel_rfl) (fun _ _ _ h=>h) (Or.inl ⟨by kernel_rfl,?_⟩) (by assumption) ?_
       rotate_left
       ·intro w hSw; (try dsimp only at hSw); go_simp; with_reducible rfl
       try simp only [List.getElem_toArray,List.getElem_cons_succ,List.getElem_cons_zero,Act.put,List.setIfInBounds_toArray,List.set_cons_zero,List.set_cons_succ]
       refine wpAnyH_take (i:=6) (v:=?_) rfl (by kernel_rfl) (by kernel_rfl) (by kernel_rfl) (fun _ _ _ h=>h) (Or.inl ⟨by kernel_rfl,?_⟩) (by assumption) ?_
       rotate_left
       ·intro w hSw; (try dsimp only at hSw); go_simp; with_reducible rfl
       try simp only [List.getElem_toArray,List.getElem_cons_succ,List.getElem_cons_zero,Act.put,List.setIfInBounds_toArray,List.set_cons_zero,List.set_cons_succ]
       refine wpAnyH_take (i:=7) (v:=?_) rfl (by kernel_rfl) (by kernel_rfl) (by kernel_rfl) (fun _ _ _ h=>h) (Or.inl ⟨by kernel_rfl,?_⟩) (by assumption) ?_
       rotate_left
       ·intro w hSw; (try dsimp only at hSw); go_simp; with_reducible rfl
       try simp only [List.getElem_toArray,List.getElem_cons_succ,List.getElem_cons_zero,Act.put,List.setIfInBounds_toArray,List.set_cons_zero,List.set_cons_succ]
       refine wpAnyH_take (i:=8) (v:=?_) rfl (by kernel_rfl) (by kernel_rfl) (by kernel_rfl) (fun _ _ _ h=>h) (Or.inl ⟨by kernel_rfl,?_⟩) (by assumption) ?_
       rotate_left
       ·intro w hSw; (try dsimp only at hSw); go_simp; with_reducible rfl
       try simp only [List.getElem_toArray,List.getElem_cons_succ,List.getElem_cons_zero,Act.put,List.setIfInBounds_toArray,List.set_cons_zero,List.set_cons_succ]
       refine wpAnyH_ready (rs:=[2]) (by kernel_rfl) (by simp) ?_
       refine AllReadyH.cons rfl (fun K hK=>?_) AllReadyH.nil
       clear hHeld
       go_simp
       have hv5:=heap_alloc_new w0 (.cells #[.int .i64 kd,.string tx,.int .i64 (v:Nat),.int .i64 (i:Nat)] 69)
       have hal2:(w0.alloc (.cells #[.int .i64 kd,.string tx,.int .i64 (v:Nat),.int .i64 (i:Nat)] 69)).heap.size=w0.heap.size+1:=by simp
       have hO4:=World.ownsRow.alloc hO2 (.cells #[.int .i64 kd,.string tx,.int .i64 (v:Nat),.int .i64 (i:Nat)] 69)
       have hB4:=HBW.trans ((below_alloc w0 (.cells #[.int .i64 kd,.string tx,.int .i64 (v:Nat),.int .i64 (i:Nat)] 69)).mono HBW.size)
       have C4:=cells4_keep (below_alloc w0 (.cells #[.int .i64 kd,.string tx,.int .i64 (v:Nat),.int .i64 (i:Nat)] 69)) hb8 C0
       have hrd:Rd (w0.alloc (.cells #[.int .i64 kd,.string tx,.int .i64 (v:Nat),.int .i64 (i:Nat)] 69)) (w0.heap.size+1) 4 (some ⟨w0.heap.size,0,none⟩) 1 [.int .i64 kd,.string tx,.int .i64 (v:Nat),.int .i64 (i:Nat)]:=
        ⟨rfl,.inr ⟨w0.heap.size,0,rfl,by omega,fun j u hu=>by rw [Nat.zero_add]; exact bx_new w0 #[.int .i64 kd,.string tx,.int .i64 (v:Nat),.int .i64 (i:Nat)] 69 j u hu⟩⟩
       generalize w0.alloc (.cells #[.int .i64 kd,.string tx,.int .i64 (v:Nat),.int .i64 (i:Nat)] 69)=W4 at hv5 hal2 hO4 hB4 C4 hrd ⊢
       refine hK.out _ _ ?_ (fun hHeld=>?_)
       ·exact C4
       clear hK K
       try simp only [List.getElem_toArray,List.getElem_cons_succ,List.getElem_cons_zero,Act.put,List.setIfInBounds_toArray,List.set_cons_zero,List.set_cons_succ]
       refine wpAnyH_ready (rs:=[3]) (by kernel_rfl) (by simp) ?_
       refine AllReadyH.cons rfl (fun K hK=>?_) AllReadyH.nil
       clear hHeld
       obtain ⟨v2,w3,hrun,hown2,hg2,-⟩:=run_append_rd (P:=Tryz.prog) W4 w.heap.size 62 62 69 i0 (.agg #[.int .i64 0,.string ⟨#[]⟩,.int .i64 0,.int .i64 0]) 4 40 Tryz.underlying62 hi hz0 hz1 hz2 rfl (by omega) (.slice A acc.length c) acc.length _ hO4 (w0.heap.size+1) (some ⟨w0.heap.size,0,none⟩) 1 1 [.int .i64 kd,.string tx,.int .i64 (v:Nat),.int .i64 (i:Nat)] hrd (by intro u hu; simp only [List.mem_cons,List.not_mem_nil,or_false] at hu; rcases hu with rfl | rfl | rfl | rfl <;> rfl) (by unfold maxLen; omega) (by omega) (by have:=HBW.size; omega)
       refine step_ap2 rfl (.tmp 63) (.tmp 65) _ rfl rfl rfl hrun ?_
       have hb3:Below w.heap.size w w3:=hB4.grown hg2 (by have:=HBW.size; omega) (fun k e=>(World.ownsRow.lt hO2 k e).1)
       have C3:=cells4_far hg2 (by omega) (fun e=>by have:=hlto b8 e.symm; omega) C4
       clear hrun hg2 hv5 hal2 hO4 hB4 C4 hrd
       refine hK.out _ _ ?_ (fun hHeld=>?_)
       ·exact C3
       clear hK K
       try simp only [List.getElem_toArray,List.getElem_cons_succ,List.getElem_cons_zero,Act.put,List.setIfInBounds_toArray,List.set_cons_zero,List.set_cons_succ]
       refine wpAnyH_ready (rs:=[9]) (by kernel_rfl) (by simp) ?_
       refine AllReadyH.cons rfl (fun K hK=>?_) AllReadyH.nil
       clear hHeld
       go_simp
       refine hK.out _ _ ?_ (fun hHeld=>?_)
       ·exact C3
       clear hK K
       try simp only [List.getElem_toArray,List.getElem_cons_succ,List.getElem_cons_zero,Act.put,List.setIfInBounds_toArray,List.set_cons_zero,List.set_cons_succ]
       refine wpAnyH_ready (rs:=[10]) (by kernel_rfl) (by simp) ?_
       refine AllReadyH.cons rfl (fun K hK=>?_) AllReadyH.nil
       clear hHeld
       go_simp
       refine hK.out _ _ ?_ (fun hHeld=>?_)
       ·exact C3
       clear hK K
       try simp only [List.getElem_toArray,List.getElem_cons_succ,List.getElem_cons_zero,Act.put,List.setIfInBounds_toArray,List.set_cons_zero,List.set_cons_succ]
       refine wpAnyH_done (by kernel_rfl) ?_ _
       try dsimp only [Exit.then]
       obtain ⟨A2,c2,rfl⟩:=own_form hown2
       have hO3:OwnT w3 w.heap.size (.slice A2 (acc.length+1) c2) (acc++[⟨kd,tx,v,i⟩]):=by
        unfold OwnT
        rw [tkCs_app,List.length_append]
        exact hown2
       have HO3:=Lib.hid hO3
       have HB3:=Lib.hid hb3
       have HL2:Hid (acc.length+1=(acc++[(⟨kd,tx,v,i⟩:Tk)]).length):=Lib.hid (by rw [List.length_append]; rfl)
       clear hO3 hb3 hown2 C3 C0 hO2 HBW hlto
       go_wp2_with fail
       exact ⟨⟨i2,f,acc++[⟨kd,tx,v,i⟩],A2,acc.length+1,c2,rfl,HL2.out,by go_num,by omega,by omega,by rw [← HL2.out]; omega,HV3,HO3.out,HB3.out⟩,by simp only [intOf,Int.toNat_natCast]; omega⟩
   ·have d1:decide ((i:Int)<(s.size:Int))=false:=decide_eq_false (by omega)
    have d2:decide (i<s.size)=false:=decide_eq_false hlt
    obtain ⟨f,rfl⟩:∃ f',f=f'+1:=⟨f - 1,by omega⟩
    have HV2:Hid (E=.ok (acc++[⟨0,ByteArray.empty,0,s.size⟩])):=Lib.hid (by rw [HV.out,skip_end false s i hlt,show i+0=i from rfl,toksF,if_neg hlt])
    have hrd:Rd (wr.alloc (.cells #[.int .i64 0,.string ⟨#[]⟩,.int .i64 0,.int .i64 (s.size:Nat)] 69)) (wr.heap.size+1) 4 (some ⟨wr.heap.size,0,none⟩) 1 [.int .i64 0,.string ⟨#[]⟩,.int .i64 0,.int .i64 (s.size:Nat)]:=
     ⟨rfl,.inr ⟨wr.heap.size,0,rfl,by omega,fun j u hu=>by rw [Nat.zero_add]; exact bx_new wr #[.int .i64 0,.string ⟨#[]⟩,.int .i64 0,.int .i64 (s.size:Nat)] 69 j u hu⟩⟩
    have hmx:acc.length+1≤maxLen:=by unfold maxLen; omega
    have hby:(acc.length+1) * 40≤140737488355328:=by omega
    have hwz:=hbw.size
    have hal2:(wr.alloc (.cells #[.int .i64 0,.string ⟨#[]⟩,.int .i64 0,.int .i64 (s.size:Nat)] 69)).heap.size=wr.heap.size+1:=by simp
    have hbs:w.heap.size≤(wr.alloc (.cells #[.int .i64 0,.string ⟨#[]⟩,.int .i64 0,.int .i64 (s.size:Nat)] 69)).heap.size:=by rw [hal2]; omega
    have HBA:=Lib.hid (below_alloc wr (.cells #[.int .i64 0,.string ⟨#[]⟩,.int .i64 0,.int .i64 (s.size:Nat)] 69))
    clear hown hbw hlt HV
    go_wp2_with (at_builtin; refine wpList_append_rd rfl (.tmp 72) (.tmp 76) _ rfl w.heap.size 69 i0 (.agg #[.int .i64 0,.string ⟨#[]⟩,.int .i64 0,.int .i64 0]) 4 40 Tryz.underlying62 hi hz0 hz1 hz2 rfl (by omega) _ _ _ rfl (World.ownsRow.alloc HOW.out _) (wr.heap.size+1) (some ⟨wr.heap.size,0,none⟩) 1 1 _ rfl hrd (by simp [Value.oneCell']) hmx hby hbs ?_; intro v2 w3 hown2 hg2 hob2)
    go_ret3
    rw [HV2.out]
    refine ⟨(HBZ.out.trans (HBA.out.mono (by omega))).grown hg2 hbs (fun k e=>(World.ownsRow.lt HOW.out k e).1),_,rfl,?_⟩
    unfold OwnT
    rw [tkCs_app,List.length_append]
    exact hown2
end Go.Proofs.YtmbffkemfepekaaGreatDoor

namespace Go.Proofs.YtmbffkemfepekaaGreatDoor
open Go.RowKit Go.Sort
theorem loop_err {ts:List Tk} {g:Nat} {s:PSt} {acc:List Rl} (h:s.err≠0):loopP ts g s acc=(s,acc):=by
 cases g with
 | zero=>rfl
 | succ g=>unfold loopP; rw [if_neg (fun h2=>h h2.1)]
theorem end_err {ts:List Tk} {s:PSt} {acc:List Rl} (h:s.err≠0):endP ts (s,acc)=.er (offP ts s) s.err:=by
 unfold endP offP
 dsimp only
 by_cases h3:s.err=3
 ·rw [if_pos h3,if_pos h3,h3]
 ·rw [if_neg h3,if_pos h,if_neg h3]
/-- What Parse holds: the result's box, the policy's box X. -/
structure PaI (w W2:World) (X:Nat) (acc:List Rl) (v:Value) (z:Nat→Bool) (rcs:List (List Value)) (W:World):Prop where
 res:W.heap[w.heap.size]? = some (.cells #[.slice none 0 0] 24 (0,0))
 pol:W.heap[X]? = some (.cells #[v] 24 (0,0))
 own:OwnZ z W (X+1) v acc rcs
 zb:∀ Y,z Y=true→X+1≤Y∧Y<W.heap.size
 below:Below X W2 W
 size:X+1≤W.heap.size
theorem PaI.next {w W2:World} {X:Nat} {acc:List Rl} {v:Value} {z:Nat→Bool} {rcs:List (List Value)} {W W':World} (h:PaI w W2 X acc v z rcs W) (hb:Below W.heap.size W W'):PaI w W2 X acc v z rcs W':=by
 have hs:=h.size
 exact ⟨heap_next h.res hb,heap_next h.pol hb,h.own.low h.zb hb.size (fun Y _ hY=>hb.block Y hY),fun Y hY=>⟨(h.zb Y hY).1,Nat.lt_of_lt_of_le (h.zb Y hY).2 hb.size⟩,h.below.trans (hb.mono (by omega)),Nat.le_trans hs hb.size⟩
/-- The blocks of a rule's two expressions are added to z. -/
theorem pa_grow {w W2:World} {X a:Nat} {acc:List Rl} {v:Value} {z:Nat→Bool} {rcs:List (List Value)} {W:World} {e1 e2:Ex} {k o:Int} {n:ByteArray} {x:Int} {A1:Option Addr} {m1 c1:Nat} {k' o':Int} {n':ByteArray} {x':Int} {A2:Option Addr} {m2 c2:Nat} (h:PaI w W2 X acc v z rcs W)
  (h1:LiesE (mask (fun Y=>decide (Y<a)) W) W.heap.size (exC k o n x A1 m1 c1) e1) (h2:LiesE (mask (fun Y=>decide (Y<a)) W) W.heap.size (exC k' o' n' x' A2 m2 c2) e2) (hob:∀ Y,v.ownBlock=some Y→Y<a) (ha:X+1≤a) :
  ∃ z':Nat→Bool,PaI w W2 X acc v z' rcs W∧RuleZ z' W (exC k o n x A1 m1 c1++exC k' o' n' x' A2 m2 c2) ⟨e1,e2⟩:=by
 have hn:∀ Y,v.ownBlock=some Y→(z Y || !(rgB a W.heap.size Y))=false:=fun Y hY=>by
  have hlt:=hob Y hY
  have r1:rgB a W.heap.size Y=true:=by unfold rgB; rw [decide_eq_true (by omega:Y<a)]; rfl
  rw [h.own.own Y hY,r1]; rfl
 refine ⟨fun Y=>z Y || !(rgB a W.heap.size Y),⟨h.res,h.pol,h.own.keep (fun Y hY=>by simp [hY]) hn (Nat.le_refl _) (fun _ _=>rfl) (fun _ _=>rfl),fun Y hY=>?_,h.below,h.size⟩,?_⟩
 ·simp only [Bool.or_eq_true,Bool.not_eq_true'] at hY
  rcases hY with hY | hY
  ·exact h.zb Y hY
  ·have:=rg_no hY; omega
 ·refine ⟨k,o,n,x,A1,m1,c1,k',o',n',x',A2,m2,c2,rfl,(lies_rg h1).turn (fun Y _ hY=>?_) (Nat.le_refl _) (fun _ _ _=>rfl),(lies_rg h2).turn (fun Y _ hY=>?_) (Nat.le_refl _) (fun _ _ _=>rfl)⟩
  ·simp [hY]
  ·simp [hY]
/-- A rule has been put behind. -/
theorem pa_app {w W2:World} {X:Nat} {acc:List Rl} {v v2:Value} {z:Nat→Bool} {rcs:List (List Value)} {W w3:World} {cs:List Value} {r:Rl} {ob:Obj} (h:PaI w W2 X acc v z rcs W) (hr:RuleZ z W cs r) (hown:w3.ownsRow (X+1) 40 10 v2 (acc.length+1) (rcs.flatten++cs))
  (hg:(W.alloc ob).grownBy w3 v.ownBlock) (hob:v2.ownBlock=v.ownBlock∨v2.ownBlock=some (W.alloc ob).heap.size) (hwX:w.heap.size<X):PaI w W2 X (acc++[r]) v2 z (rcs++[cs]) (w3.setCell ⟨X,0,none⟩ v2):=by
 have hba:=below_alloc W ob
 have hsz:(W.alloc ob).heap.size=W.heap.size+1:=by simp
 have hbW:=h.size
 have hvlt:=fun g hg=>h.own.row.lt g hg
 have far:∀ Y,Y<W.heap.size→v.ownBlock≠some Y→w3.heap[Y]? = W.heap[Y]?:=fun Y hY hne=>(hg.block Y (by omega) (fun e=>hne e.symm)).trans (hba.block Y hY)
 have hs3:W.heap.size≤w3.heap.size:=Nat.le_trans (by omega) hg.size
 have nown:∀ Y,Y<X+1→v.ownBlock≠some Y:=fun Y hY e=>absurd (hvlt Y e).1 (by omega)
 have hb3:Below X W w3:=(hba.mono (by omega)).grown hg (by omega) (fun k e=>Nat.le_trans (by omega) (hvlt k e).1)
 have ho3:=h.own.app hr h.zb hs3 hown (fun Y hY hne=>far Y hY hne) (hob.imp id fun e=>⟨_,e,by omega⟩)
 have far2:∀ Y,Y≠X→(w3.setCell ⟨X,0,none⟩ v2).heap[Y]? = w3.heap[Y]?:=fun Y hY=>Below.heap_setCell w3 ⟨X,0,none⟩ v2 Y hY
 refine ⟨((far2 _ (by omega)).trans (far _ (by omega) (nown _ (by omega)))).trans h.res,?_,?_,fun Y hY=>⟨(h.zb Y hY).1,by have:=(h.zb Y hY).2; simp; omega⟩,(h.below.trans hb3).setCell (p:=⟨X,0,none⟩) (Nat.le_refl _) _,by simp; omega⟩
 ·exact blk1_set ((far X (by omega) (nown X (by omega))).trans h.pol) _
 ·refine ho3.keep (fun _ h=>h) ho3.own (by simp) (fun Y hY=>far2 Y (by have:=(h.zb Y hY).1; omega)) (fun g hg'=>far2 g (by have:=(ho3.row.lt g hg').1; omega))
set_option maxRecDepth 100000 in
set_option maxHeartbeats 12800000 in
theorem rparse_any (s:ByteArray) (hs:s.size≤140737488355328) (w:World):Calls Tryz.prog 9 #[.string s] w (ParR (parseM s) w):=by
 have HTK:=Lib.hid (fun W=>rtoks_any s hs W)
 have HPM:Hid (parseM s=match toksE s with | .er a f=>.er a f | .ok ts=>endP ts (loopP ts (ts.length+1) ⟨0,0⟩ [])):=Lib.hid rfl
 have HOK:=Lib.hid (fun ts=>toksE_ok (s:=s) (ts:=ts))
 have HER:=Lib.hid (fun a e=>toksE_er (s:=s) (a:=a) (e:=e))
 generalize parseM s=pm at HPM ⊢
 generalize toksE s=tr at HTK HPM HOK HER
 unfold TksR.Rgv at HTK
 have hE:=blk_new w (.cells #[.slice none 0 0] 24)
 have hb1:=below_alloc w (.cells #[.slice none 0 0] 24)
 have hz1:w.heap.size<(w.alloc (.cells #[.slice none 0 0] 24)).heap.size:=by simp
 cases tr with
 | er a f=>
  have HV:Hid (pm=.er a f):=Lib.hid HPM.out
  have hf:=HER.out a f rfl
  have n0:((f:Nat):Int)≠0:=by omega
  have n1:(((f:Nat):Int) != 0)=true:=by simpa using hf
  have n2:(f != 0)=true:=by simpa using hf
  clear HPM HOK HER hf
  go_enter Tryz.func9,Tryz.ntmps9
  go_upto_region 1 with fail
  generalize w.alloc _=w1 at hE hb1 hz1 ⊢
  go_wp2_with fail
  refine (HTK.out w1).mono ?_
  rintro e W2 ⟨hb2,v,rfl,-⟩
  have hE2:=(hb2.block w.heap.size hz1).trans hE
  have hb12:=hb1.trans (hb2.mono hb1.size)
  obtain ⟨y0,y1⟩:=blk1 hE2
  clear hb2 hE
  go_wp2_with fail
  refine bodyPost_ret (v:=.tuple #[.agg #[.slice none 0 0],.int .i64 (a:Nat),.int .i64 (f:Nat)]) (results_c2t rfl rfl (loadP (blk1_set hE2 _)) rfl rfl) rfl ?_
  unfold ParR
  rw [HV.out]
  exact ⟨hb12.setCell (p:=⟨w.heap.size,0,none⟩) (Nat.le_refl _) _,rfl⟩
 | ok ts=>
  replace HPM:Hid (pm=endP ts (loopP ts (ts.length+1) ⟨0,0⟩ [])):=Lib.hid HPM.out
  have htk:=HOK.out ts rfl
  clear HOK HER
  go_enter Tryz.func9,Tryz.ntmps9
  go_upto_region 1 with fail
  generalize w.alloc _=w1 at hE hb1 hz1 ⊢
  go_wp2_with fail
  refine (HTK.out w1).mono ?_
  rintro e W2 ⟨hb2,v,rfl,hown⟩
  obtain ⟨A,c,rfl⟩:=own_form hown
  have hb12:=hb1.trans (hb2.mono hb1.size)
  have hE2:=(hb2.block w.heap.size hz1).trans hE
  have hz2:w.heap.size<W2.heap.size:=Nat.lt_of_lt_of_le hz1 hb2.size
  have hcap:=own_cap' (show W2.ownsRow w1.heap.size 69 4 (.slice A ts.length c) ts.length (tkCs ts) from hown)
  have htok:Rd W2 W2.heap.size 4 A ts.length (tkCs ts):=Rd.of_own hown
  clear hown hb2 hb1 hE hz1 HTK
  go_upto_region 5 with fail
  have hba:=below_alloc W2 (.cells #[.slice none 0 0] 24)
  have hI0:PaI w W2 W2.heap.size [] (.slice none 0 0) (fun _=>false) [] (W2.alloc (.cells #[.slice none 0 0] 24)):=
   ⟨(hba.block w.heap.size hz2).trans hE2,heap_alloc_new W2 _,OwnZ.nil _ _ _,(fun Y h=>by cases h),hba,by simp⟩
  clear hba hE2
  generalize W2.alloc _=W3 at hI0 ⊢
  have hwX:=hb12.size
  generalize W2.heap.size=X at hI0 htok hz2 hwX ⊢
  have HTOK:=Lib.hid htok
  have HB12:=Lib.hid hb12
  have hlen:=htk.len
  have hpos:=htk.pos
  have HTKS:=Lib.hid htk
  have HI0:=Lib.hid hI0
  clear htok hb12 hI0 htk
  go_wp2_with fail
  go_loopg [9,10,11,12,13] (ts.length+1) (fun g r9 _ _ _ _ wr=>∃ (k:Nat) (acc:List Rl) (v:Value) (z:Nat→Bool) (rcs:List (List Value)),r9=.int .i64 (k:Nat)∧k<ts.length∧Hid (pm=endP ts (loopP ts g ⟨k,0⟩ acc))∧Hid (PaI w W2 X acc v z rcs wr)∧acc.length+g≤ts.length+1∧ts.length<k+g)
  case atStart=>exact ⟨0,[],_,_,_,rfl,hpos,HPM,HI0,by simp,by simp⟩
  case round=>
   clear HI0 HPM
   obtain ⟨k,acc,v,z,rcs,rfl,hlt,HPM,HI,hal,hfu⟩:=hrel
   obtain ⟨g,rfl⟩:∃ g,gk=g+1:=⟨gk - 1,by omega⟩
   obtain ⟨Av,cv,hv⟩:=own_form HI.out.own.row
   subst hv
   have HTW:Hid (TkW A X ts wr):=Lib.hid ⟨HTOK.out.below HI.out.below,by have:=HI.out.size; omega⟩
   cases hk:ts[k]? with
   | none=>exact absurd (List.getElem?_eq_none_iff.1 hk) (by omega)
   | some t=>
   obtain ⟨b,off,hA,hb,x0,x1,x2,x3⟩:=tk_at HTW.out.tok hk
   subst hA
   have g3:(k:Int)<(ts.length:Int):=by omega
   have g4:(0:Int)≤(k:Int):=by omega
   have hka:kindAt ts k=t.kind:=by unfold kindAt; rw [hk]
   have hXs:=HI.out.size
   have hbw:b<wr.heap.size:=by omega
   by_cases hkd:t.kind=0
   ·have hR:loopP ts (g+1) ⟨k,0⟩ acc=(⟨k,0⟩,acc):=by
     unfold loopP
     rw [if_neg (fun h=>h.2 (hka.trans hkd))]
    have HV:Hid (pm=if chkP acc≠0 then .er 0 (chkP acc) else .ok acc):=Lib.hid (by rw [HPM.out,hR]; rfl)
    have hlies:=HI.out.own.lies rfl (by omega)
    have HCK:=Lib.hid (rpck_any Av cv wr.heap.size acc wr hlies (Nat.le_refl _))
    unfold Ret at HCK
    generalize chkP acc=ck at HCK HV
    rw [hkd] at x0
    obtain ⟨p0,p1⟩:=blk1 HI.out.pol
    clear hR hlies hkd hka hk HPM x1 x2 x3
    go_wp2_with fail
    refine HCK.out.mono ?_
    rintro e W5 ⟨rfl,hb5⟩
    have HI5:=Lib.hid (HI.out.next hb5)
    clear p0 p1 x0 HCK hb5 hbw
    obtain ⟨y0,y1⟩:=blk1 HI5.out.res
    obtain ⟨p0,p1⟩:=blk1 HI5.out.pol
    have HBW:=Lib.hid (HB12.out.trans (HI5.out.below.mono (by omega)))
    by_cases hck:ck=0
    ·have HV2:Hid (pm=.ok acc):=Lib.hid (by rw [HV.out,hck]; rfl)
     subst hck
     clear HV
     go_wp2_with fail
     refine bodyPost_ret (v:=.tuple #[.agg #[.slice Av acc.length cv],.int .i64 0,.int .i64 0]) (results_c2t rfl rfl (loadP (blk1_set HI5.out.res _)) rfl rfl) rfl ?_
     unfold ParR
     rw [HV2.out]
     refine ⟨HBW.out.setCell (p:=⟨w.heap.size,0,none⟩) (Nat.le_refl _) _,Av,cv,rfl,?_⟩
     have h7:=(HI5.out.own.keep (W':=W5.setCell ⟨w.heap.size,0,none⟩ (.slice Av acc.length cv)) (fun _ h=>h) HI5.out.own.own (by simp) (fun Y hY=>Below.heap_setCell W5 ⟨w.heap.size,0,none⟩ _ Y (by have:=(HI5.out.zb Y hY).1; show Y≠w.heap.size; omega)) (fun g hg=>Below.heap_setCell W5 ⟨w.heap.size,0,none⟩ _ g (by have:=(HI5.out.own.row.lt g hg).1; show g≠w.heap.size; omega)))
     exact h7.lies rfl (by omega)
    ·have HV2:Hid (pm=.er 0 ck):=Lib.hid (by rw [HV.out,if_pos hck])
     have k0:((ck:Int) != 0)=true:=by simpa using (by omega:¬ (ck:Int)=0)
     have k1:(ck != 0)=true:=by simpa using hck
     have k2:((ck:Nat):Int)≠0:=by omega
     clear HV hck
     go_wp2_with fail
     refine bodyPost_ret (v:=.tuple #[.agg #[.slice none 0 0],.int .i64 0,.int .i64 (ck:Nat)]) (results_c2t rfl rfl (loadP (blk1_set HI5.out.res _)) rfl rfl) rfl ?_
     unfold ParR
     rw [HV2.out]
     exact ⟨HBW.out.setCell (p:=⟨w.heap.size,0,none⟩) (Nat.le_refl _) _,rfl⟩
   ·have n1:(t.kind != 0)=true:=by simpa using hkd
    have HRR:Hid (pm=endP ts (loopP ts g (r5P ts ⟨k,0⟩) (acc++[⟨(r2P ts ⟨k,0⟩).1,(r4P ts ⟨k,0⟩).1⟩]))):=Lib.hid (by
     rw [HPM.out]
     conv=>lhs; unfold loopP
     rw [if_pos ⟨rfl,fun h=>hkd (hka.symm.trans h)⟩])
    have hl5:=(rP_lt HTKS.out (s:=⟨k,0⟩) hlt).2.2.2.2
    have hadv:=r5_adv HTKS.out (s:=⟨k,0⟩) rfl hlt
    have HRU:=Lib.hid (rrule_any HTKS.out hcap hlt wr HTW.out)
    generalize r5P ts ⟨k,0⟩=s5 at HRR hl5 hadv HRU
    generalize (r4P ts ⟨k,0⟩).1=e2 at HRR HRU
    generalize (r2P ts ⟨k,0⟩).1=e1 at HRR HRU
    unfold RuQ at HRU
    obtain ⟨k5,f5⟩:=s5
    try dsimp only at HRU hl5 hadv
    have HEE:Hid (f5≠0→pm=.er (offP ts ⟨k5,f5⟩) f5):=Lib.hid (fun h=>by rw [HRR.out,loop_err (s:=⟨k5,f5⟩) h,end_err (s:=⟨k5,f5⟩) h])
    generalize offP ts ⟨k5,f5⟩=o5 at HRU HEE
    have HADV:=Lib.hid hadv
    clear hadv hkd hka hk HPM x1 x2 x3
    go_wp2_with fail
    refine HRU.out.mono ?_
    rintro e W5 ⟨hb5,A1,c1,A2,c2,k',rfl,hk',hL1,hL2⟩
    have hb6:=hb5.trans (below_alloc2 hb5.size (.cells #[.int .i64 e1.kind,.int .i64 e1.op,.string e1.name,.int .i64 e1.val,.slice A1 e1.args.length c1,.int .i64 e2.kind,.int .i64 e2.op,.string e2.name,.int .i64 e2.val,.slice A2 e2.args.length c2] 40))
    have hba:=below_alloc W5 (.cells #[.int .i64 e1.kind,.int .i64 e1.op,.string e1.name,.int .i64 e1.val,.slice A1 e1.args.length c1,.int .i64 e2.kind,.int .i64 e2.op,.string e2.name,.int .i64 e2.val,.slice A2 e2.args.length c2] 40)
    have hK:(W5.alloc (.cells #[.int .i64 e1.kind,.int .i64 e1.op,.string e1.name,.int .i64 e1.val,.slice A1 e1.args.length c1,.int .i64 e2.kind,.int .i64 e2.op,.string e2.name,.int .i64 e2.val,.slice A2 e2.args.length c2] 40)).heap[W5.heap.size]? = some (.cells #[.int .i64 e1.kind,.int .i64 e1.op,.string e1.name,.int .i64 e1.val,.slice A1 e1.args.length c1,.int .i64 e2.kind,.int .i64 e2.op,.string e2.name,.int .i64 e2.val,.slice A2 e2.args.length c2] 40 (0,0)):=heap_alloc_new W5 _
    replace hL1:=hL1.turn (W:=W5.alloc (.cells #[.int .i64 e1.kind,.int .i64 e1.op,.string e1.name,.int .i64 e1.val,.slice A1 e1.args.length c1,.int .i64 e2.kind,.int .i64 e2.op,.string e2.name,.int .i64 e2.val,.slice A2 e2.args.length c2] 40)) (q:=fun X=>decide (X<wr.heap.size)) (fun X _ h=>h) hba.size (fun X hX _=>hba.block X hX)
    replace hL2:=hL2.turn (W:=W5.alloc (.cells #[.int .i64 e1.kind,.int .i64 e1.op,.string e1.name,.int .i64 e1.val,.slice A1 e1.args.length c1,.int .i64 e2.kind,.int .i64 e2.op,.string e2.name,.int .i64 e2.val,.slice A2 e2.args.length c2] 40)) (q:=fun X=>decide (X<wr.heap.size)) (fun X _ h=>h) hba.size (fun X hX _=>hba.block X hX)
    have hob:∀ Y,(Value.slice Av acc.length cv).ownBlock=some Y→Y<wr.heap.size:=fun Y hY=>(HI.out.own.row.lt Y hY).2
    have hI6:=HI.out.next hb6
    have HK':=Lib.hid hk'
    clear hb5 hb6 hba x0 HRU hbw hk'
    go_upto_region 8 with fail
    generalize W5.alloc _=W6 at hK hL1 hL2 hI6 ⊢
    generalize W5.heap.size=K at hK ⊢
    by_cases hf:f5=0
    rotate_left
    ·have HV2:=Lib.hid (HEE.out hf)
     have k0:((f5:Int) != 0)=true:=by simpa using (by omega:¬ (f5:Int)=0)
     have k1:(f5 != 0)=true:=by simpa using hf
     have k2:((f5:Nat):Int)≠0:=by omega
     have HI6:=Lib.hid hI6
     obtain ⟨y0,y1⟩:=blk1 hI6.res
     have HBW:=Lib.hid (HB12.out.trans (hI6.below.mono (by omega)))
     clear hL1 hL2 hob hI6 hK hf HEE
     go_wp2_with fail
     refine bodyPost_ret (v:=.tuple #[.agg #[.slice none 0 0],.int .i64 (o5:Nat),.int .i64 (f5:Nat)]) (results_c2t rfl rfl (loadP (blk1_set HI6.out.res _)) rfl rfl) rfl ?_
     unfold ParR
     rw [HV2.out]
     exact ⟨HBW.out.setCell (p:=⟨w.heap.size,0,none⟩) (Nat.le_refl _) _,rfl⟩
    ·obtain rfl:=HK'.out hf
     subst hf
     have hadv:=HADV.out rfl
     obtain ⟨z',hI13,hRZ⟩:=pa_grow (e1:=e1) (e2:=e2) hI6 hL1 hL2 hob (by omega)
     clear hI6 hL1 hL2 HEE HADV HK'
     obtain ⟨⟨k0,k1,k2,k3,k4,k5,k6,k7,k8,k9⟩,-⟩:=blk10 hK
     obtain ⟨xp0,xp1⟩:=blk1 hI13.pol
     obtain ⟨i0,hi,hy0,hy1,hy2⟩:=info_parts ruleInfo
     have hrd:Rd (W6.alloc (.cells #[.int .i64 e1.kind,.int .i64 e1.op,.string e1.name,.int .i64 e1.val,.slice A1 e1.args.length c1,.int .i64 e2.kind,.int .i64 e2.op,.string e2.name,.int .i64 e2.val,.slice A2 e2.args.length c2] 40)) (W6.heap.size+1) 10 (some ⟨W6.heap.size,0,none⟩) 1 [.int .i64 e1.kind,.int .i64 e1.op,.string e1.name,.int .i64 e1.val,.slice A1 e1.args.length c1,.int .i64 e2.kind,.int .i64 e2.op,.string e2.name,.int .i64 e2.val,.slice A2 e2.args.length c2]:=
      ⟨rfl,.inr ⟨W6.heap.size,0,rfl,by omega,fun j u hu=>by rw [Nat.zero_add]; exact bx_new W6 #[.int .i64 e1.kind,.int .i64 e1.op,.string e1.name,.int .i64 e1.val,.slice A1 e1.args.length c1,.int .i64 e2.kind,.int .i64 e2.op,.string e2.name,.int .i64 e2.val,.slice A2 e2.args.length c2] 40 j u hu⟩⟩
     have hmx:acc.length+1≤maxLen:=by unfold maxLen; omega
     have hby:(acc.length+1) * 128≤140737488355328:=by omega
     have hbs:X+1≤(W6.alloc (.cells #[.int .i64 e1.kind,.int .i64 e1.op,.string e1.name,.int .i64 e1.val,.slice A1 e1.args.length c1,.int .i64 e2.kind,.int .i64 e2.op,.string e2.name,.int .i64 e2.val,.slice A2 e2.args.length c2] 40)).heap.size:=by simp; have:=hI13.size; omega
     have HI13:=Lib.hid hI13
     have HRZ:=Lib.hid hRZ
     have hX12:X<W6.heap.size:=by have:=hI13.size; omega
     have hoX:(Value.slice Av acc.length cv).ownBlock≠some X:=fun e=>absurd (hI13.own.row.lt X e).1 (by omega)
     have HXP:=Lib.hid ((below_alloc W6 (.cells #[.int .i64 e1.kind,.int .i64 e1.op,.string e1.name,.int .i64 e1.val,.slice A1 e1.args.length c1,.int .i64 e2.kind,.int .i64 e2.op,.string e2.name,.int .i64 e2.val,.slice A2 e2.args.length c2] 40)).block X hX12 |>.trans hI13.pol)
     clear hI13 hRZ hK hob
     go_wp2_with (at_builtin; refine wpList_append_rd rfl (.tmp 47) (.tmp 49) _ rfl (X+1) 40 i0 (.agg #[.int .i64 0,.int .i64 0,.string ⟨#[]⟩,.int .i64 0,.slice none 0 0,.int .i64 0,.int .i64 0,.string ⟨#[]⟩,.int .i64 0,.slice none 0 0]) 10 128 Tryz.underlying22 hi hy0 hy1 hy2 rfl (by omega) _ _ _ rfl (World.ownsRow.alloc HI13.out.own.row _) (W6.heap.size+1) (some ⟨W6.heap.size,0,none⟩) 1 1 _ rfl hrd HRZ.out.one hmx hby hbs ?_; intro v2 w3 hown2 hg2 hob2; have HOB2:=Lib.hid hob2; clear hob2; have hX3:=(hg2.block X (by simp; omega) (fun e=>hoX e.symm)).trans HXP.out; obtain ⟨xq0,xq1⟩:=blk1 hX3; obtain ⟨A3,cc3,rfl⟩:=own_form hown2)
     have hI14:=pa_app HI13.out HRZ.out hown2 hg2 HOB2.out hz2
     go_roundg g
     case measure=>omega
     case rel=>exact ⟨_,acc++[⟨e1,e2⟩],_,z',_,rfl,hl5,HRR,Lib.hid hI14,by rw [List.length_append]; simp; omega,by omega⟩
end Go.Proofs.YtmbffkemfepekaaGreatDoor
