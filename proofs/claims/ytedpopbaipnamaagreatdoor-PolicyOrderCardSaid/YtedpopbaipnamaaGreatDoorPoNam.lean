/- expr.isName, walked. Conditions: none. -/
import Derived.Test.YtedpopbaipnamaaGreatDoorPoBase
import Derived.Test.YtedpopbaipnamaaGreatDoorPoBx
import Derived.Laws.RangeAny
import Derived.RegionTactic
import Derived.BigRegion
import Derived.Deep.RegionWith
import Derived.Deep.RegionHeld3
import Derived.Deep.DeepCutAuto
namespace Go.Proofs.YtedpopbaipnamaaGreatDoor
open Go.RowKit
/-- All bytes ahead of a place may stand in a name. -/
def okTo (s:ByteArray) (pos:Nat):Prop:=∀ (j:Nat) (h:j<s.size),j<pos→inB s[j]=true∧(j=0→letB s[j]=true)
theorem get_list (s:ByteArray) (j:Nat) (h:j<s.size):s.data.toList[j]? = some s[j]:=by
 rw [Array.getElem?_toList,Array.getElem?_eq_getElem (by simpa using h)]; rfl
theorem nmB_yes {s:ByteArray} (h:okTo s s.size) (h1:1≤s.size) (h2:s.size≤30):nmB s=true:=by
 have hl:s.data.toList.length=s.size:=by simp
 unfold nmB nmL
 cases e:s.data.toList with
 | nil=>rw [e] at hl; simp at hl; omega
 | cons c r=>
  have h0:=h 0 (by omega) (by omega)
  have hc:s[0]=c:=by have:=get_list s 0 (by omega); rw [e] at this; simpa using this.symm
  have hl2:(c::r).length=s.size:=by rw [← e]; exact hl
  rw [hl2,decide_eq_true h1,decide_eq_true h2]
  simp only [Bool.true_and,Bool.and_eq_true]
  refine ⟨by rw [← hc]; exact h0.2 rfl,List.all_eq_true.2 fun x hx=>?_⟩
  rw [← e] at hx
  obtain ⟨j,hj,rfl⟩:=List.getElem_of_mem hx
  have hjs:j<s.size:=by rw [← hl]; exact hj
  have:=get_list s j hjs
  rw [List.getElem?_eq_getElem hj] at this
  injection this with this
  rw [this]
  exact (h j hjs hjs).1
theorem nmB_no {s:ByteArray} (j:Nat) (h:j<s.size) (hb:inB s[j]=false∨(j=0∧letB s[j]=false)):nmB s=false:=by
 cases hn:nmB s with
 | false=>rfl
 | true=>
  exfalso
  unfold nmB nmL at hn
  simp only [Bool.and_eq_true] at hn
  obtain ⟨⟨⟨-,-⟩,h3⟩,h4⟩:=hn
  have hg:=get_list s j h
  have hm:s[j]∈s.data.toList:=List.mem_of_getElem? hg
  have h5:=List.all_eq_true.1 h4 _ hm
  rcases hb with hb | ⟨rfl,hb⟩
  ·rw [h5] at hb; cases hb
  ·cases e:s.data.toList with
   | nil=>rw [e] at hg; simp at hg
   | cons c r=>
    rw [e] at hg h3
    simp at hg h3
    rw [← hg,h3] at hb; cases hb
theorem nmB_len {s:ByteArray} (h:s.size<1∨30<s.size):nmB s=false:=by
 have hl:s.data.toList.length=s.size:=by simp
 unfold nmB nmL
 rw [hl]
 rcases h with h | h
 ·rw [decide_eq_false (by omega:¬ 1≤s.size)]; simp
 ·rw [decide_eq_false (by omega:¬ s.size≤30)]; simp
set_option maxRecDepth 100000 in
theorem letter_any (n:Nat) (w:World):Calls Tryz.prog 134 #[.int .i32 (n:Nat)] w fun e W=>e=.returned (.bool (decide (97≤n) && decide (n≤122)))∧W=w:=by
 by_cases h1:97≤n
 ·have e1:decide ((97:Int)≤(n:Int))=true:=decide_eq_true (by omega)
  have e2:decide (97≤n)=true:=decide_eq_true h1
  by_cases h2:n≤122
  ·have e3:decide ((n:Int)≤(122:Int))=true:=decide_eq_true (by omega)
   have e4:decide (n≤122)=true:=decide_eq_true h2
   rw [e2,e4]
   go_enter Tryz.func134,Tryz.ntmps134
   go_wp2_with fail
   go_ret
   exact ⟨rfl,rfl⟩
  ·have e3:decide ((n:Int)≤(122:Int))=false:=decide_eq_false (by omega)
   have e4:decide (n≤122)=false:=decide_eq_false h2
   rw [e2,e4]
   go_enter Tryz.func134,Tryz.ntmps134
   go_wp2_with fail
   go_ret
   exact ⟨rfl,rfl⟩
 ·have e1:decide ((97:Int)≤(n:Int))=false:=decide_eq_false (by omega)
  have e2:decide (97≤n)=false:=decide_eq_false h1
  rw [e2]
  go_enter Tryz.func134,Tryz.ntmps134
  go_wp2_with fail
  go_ret
  exact ⟨rfl,rfl⟩
theorem letter_is (n:Nat) (b:Bool) (hb:(decide (97≤n) && decide (n≤122))=b) (w:World):Calls Tryz.prog 134 #[.int .i32 (n:Nat)] w fun e W=>e=.returned (.bool b)∧W=w:=by
 subst hb; exact letter_any n w
set_option maxRecDepth 100000 in
set_option maxHeartbeats 3200000 in
theorem isName_any (s:ByteArray) (hs:s.size≤9223372036854775807) (w:World):Calls Tryz.prog 94 #[.string s] w (Ret (.bool (nmB s)) w):=by
 unfold Ret
 go_enter Tryz.func94,Tryz.ntmps94
 go_wp2_with fail
 go_loopw [2] (fun r wr=>r=.bool false∧∃ pos:Nat,wr=w.iter s pos∧pos≤s.size∧Hid (okTo s pos)) (fun _ wr=>s.size - wr.iterPos w.heap.size)
 case atStart=>exact ⟨rfl,0,rfl,Nat.zero_le _,Lib.hid (fun j h hj=>by omega)⟩
 case round=>
  obtain ⟨rfl,pos,rfl,hp,HOK⟩:=hrel
  have hbw:∀ p:Nat,Below w.heap.size w (w.iter s p):=fun p=>below_alloc w _
  have HBW:=Lib.hid hbw
  clear hbw
  by_cases hlt:pos<s.size
  ·by_cases hc:(s[pos]'hlt).toNat<128
   ·have hnx:=fun ty=>run_next_ascii (P:=Tryz.prog) w s pos ty hlt hc
    have HC:Hid (inB s[pos]=(decide (97≤(s[pos]).toNat) && decide ((s[pos]).toNat≤122) || (decide (48≤(s[pos]).toNat) && decide ((s[pos]).toNat≤57)) || (s[pos]).toNat == 95)):=Lib.hid rfl
    have HL:Hid (letB s[pos]=(decide (97≤(s[pos]).toNat) && decide ((s[pos]).toNat≤122))):=Lib.hid rfl
    have HN:=Lib.hid (fun h=>nmB_no (s:=s) pos hlt h)
    have HS:Hid (inB s[pos]=true→(pos=0→letB s[pos]=true)→okTo s (pos+1)):=Lib.hid (fun h1 h2 j hj hj2=>by
     by_cases e:j=pos
     ·subst e; exact ⟨h1,h2⟩
     ·exact HOK.out j hj (by omega))
    generalize (s[pos]'hlt).toNat=c at hc hnx HC HL
    generalize inB s[pos]=ib at HC HN HS
    generalize letB s[pos]=lb at HL HN HS
    go_upto_region 5 with fail
    have HLT:=Lib.hid (fun (b:Bool) (hb:lb=b) (W:World)=>letter_is c b (HL.out.symm.trans hb) W)
    cases hlb:lb with
    | true=>
     have HF:=HLT.out true hlb
     have HOK2:Hid (okTo s (pos+1)):=Lib.hid (HS.out (by rw [HC.out,← HL.out,hlb]; rfl) (fun _=>hlb))
     clear hlb HLT HC HL HN HS hnx
     go_wp2_with (go_at_call 134; refine (HF _).mono ?_; rintro e W5 ⟨rfl,rfl⟩)
     exact ⟨⟨rfl,pos+1,rfl,by omega,HOK2⟩,by simp; omega⟩
    | false=>
     have HF:=HLT.out false hlb
     by_cases h0:pos=0
     ·have e0:((pos:Int) == 0)=true:=by simpa using h0
      have HNO:=Lib.hid (HN.out (.inr ⟨h0,hlb⟩))
      clear hlb HLT HC HL HN HS hnx h0
      go_wp2_with (go_at_call 134; refine (HF _).mono ?_; rintro e W5 ⟨rfl,rfl⟩)
      refine bodyPost_ret (results_tmp rfl _ _ _) rfl ?_
      exact ⟨by rw [HNO.out]; rfl,HBW.out _⟩
     ·have e0:((pos:Int) == 0)=false:=by simpa using h0
      have e9:(pos == 0)=false:=by simpa using h0
      by_cases h95:c=95
      ·have e1:((c:Int) != 95)=false:=by simpa using (by omega:(c:Int)=95)
       have e2:(c != 95)=false:=by simpa using h95
       have HOK2:Hid (okTo s (pos+1)):=Lib.hid (HS.out (by rw [HC.out,h95]; rfl) (fun h=>absurd h h0))
       clear hlb HLT HC HL HN HS hnx h0 h95
       go_wp2_with (go_at_call 134; refine (HF _).mono ?_; rintro e W5 ⟨rfl,rfl⟩)
       exact ⟨⟨rfl,pos+1,rfl,by omega,HOK2⟩,by simp; omega⟩
      ·have e1:((c:Int) != 95)=true:=by simpa using (by omega:¬ (c:Int)=95)
       have e2:(c != 95)=true:=by simpa using h95
       have e3:(c == 95)=false:=by simpa using h95
       by_cases h48:c<48
       ·have e4:decide ((c:Int)<48)=true:=decide_eq_true (by omega)
        have HNO:=Lib.hid (HN.out (.inl (by rw [HC.out,← HL.out,hlb,e3,decide_eq_false (by omega:¬ 48≤c)]; rfl)))
        clear hlb HLT HC HL HN HS hnx h0 h95 e3
        go_wp2_with (go_at_call 134; refine (HF _).mono ?_; rintro e W5 ⟨rfl,rfl⟩)
        refine bodyPost_ret (results_tmp rfl _ _ _) rfl ?_
        exact ⟨by rw [HNO.out]; rfl,HBW.out _⟩
       ·have e4:decide ((c:Int)<48)=false:=decide_eq_false (by omega)
        by_cases h57:57<c
        ·have e5:decide ((57:Int)<(c:Int))=true:=decide_eq_true (by omega)
         have HNO:=Lib.hid (HN.out (.inl (by rw [HC.out,← HL.out,hlb,e3,decide_eq_false (by omega:¬ c≤57)]; simp)))
         clear hlb HLT HC HL HN HS hnx h0 h95 e3
         go_wp2_with (go_at_call 134; refine (HF _).mono ?_; rintro e W5 ⟨rfl,rfl⟩)
         refine bodyPost_ret (results_tmp rfl _ _ _) rfl ?_
         exact ⟨by rw [HNO.out]; rfl,HBW.out _⟩
        ·have e5:decide ((57:Int)<(c:Int))=false:=decide_eq_false (by omega)
         have HOK2:Hid (okTo s (pos+1)):=Lib.hid (HS.out (by rw [HC.out,← HL.out,hlb,decide_eq_true (by omega:48≤c),decide_eq_true (by omega:c≤57)]; rfl) (fun h=>absurd h h0))
         clear hlb HLT HC HL HN HS hnx h0 h95 e3
         go_wp2_with (go_at_call 134; refine (HF _).mono ?_; rintro e W5 ⟨rfl,rfl⟩)
         exact ⟨⟨rfl,pos+1,rfl,by omega,HOK2⟩,by simp; omega⟩
   ·have hnx:=fun ty=>run_next_any (P:=Tryz.prog) w s pos ty hlt
    obtain ⟨hr,hw⟩:=decode_high s pos hlt (by omega)
    have HNO:=Lib.hid (nmB_no (s:=s) pos hlt (.inl (by unfold inB letB digB; rw [decide_eq_false (by omega:¬ (s[pos]).toNat≤122),decide_eq_false (by omega:¬ (s[pos]).toNat≤57),beq_eq_false_iff_ne.2 (by omega)]; simp)))
    generalize (Utf8.decode s pos).2=wd at hnx hw
    generalize (Utf8.decode s pos).1=c at hnx hr
    have HF:=letter_is c false (by rw [decide_eq_false (by omega:¬ c≤122)]; simp)
    have e1:((c:Int) != 95)=true:=by simp; omega
    have e2:(c != 95)=true:=by simp; omega
    have e4:decide ((c:Int)<48)=false:=decide_eq_false (by omega)
    have e5:decide ((57:Int)<(c:Int))=true:=decide_eq_true (by omega)
    clear HOK hc
    by_cases h0:pos=0
    ·have e0:((pos:Int) == 0)=true:=by simpa using h0
     have H0:=Lib.hid h0
     clear h0
     go_wp2_with (go_at_call 134; refine (HF _).mono ?_; rintro e W5 ⟨rfl,rfl⟩)
     refine bodyPost_ret (results_tmp rfl _ _ _) rfl ?_
     exact ⟨by rw [HNO.out]; rfl,HBW.out _⟩
    ·have e0:((pos:Int) == 0)=false:=by simpa using h0
     have H0:=Lib.hid h0
     clear h0
     go_wp2_with (go_at_call 134; refine (HF _).mono ?_; rintro e W5 ⟨rfl,rfl⟩)
     refine bodyPost_ret (results_tmp rfl _ _ _) rfl ?_
     exact ⟨by rw [HNO.out]; rfl,HBW.out _⟩
  ·have hnx:=fun ty=>run_next_end (P:=Tryz.prog) w s pos ty hlt
   have hps:pos=s.size:=by omega
   have HOK2:Hid (okTo s s.size):=Lib.hid (by rw [← hps]; exact HOK.out)
   clear HOK hps
   by_cases h1:1≤s.size
   ·have e1:decide ((1:Int)≤(s.size:Int))=true:=decide_eq_true (by omega)
    have e2:decide (1≤s.size)=true:=decide_eq_true h1
    by_cases h2:s.size≤30
    ·have e3:decide ((s.size:Int)≤30)=true:=decide_eq_true (by omega)
     have e4:decide (s.size≤30)=true:=decide_eq_true h2
     have HNO:=Lib.hid (nmB_yes HOK2.out h1 h2)
     go_wp2_with fail
     go_ret
     exact ⟨by rw [HNO.out]; rfl,HBW.out _⟩
    ·have e3:decide ((s.size:Int)≤30)=false:=decide_eq_false (by omega)
     have e4:decide (s.size≤30)=false:=decide_eq_false h2
     have HNO:=Lib.hid (nmB_len (s:=s) (.inr (by omega)))
     go_wp2_with fail
     go_ret
     exact ⟨by rw [HNO.out]; rfl,HBW.out _⟩
   ·have e1:decide ((1:Int)≤(s.size:Int))=false:=decide_eq_false (by omega)
    have e2:decide (1≤s.size)=false:=decide_eq_false h1
    have HNO:=Lib.hid (nmB_len (s:=s) (.inl (by omega)))
    clear h1
    go_wp2_with fail
    go_ret
    exact ⟨by rw [HNO.out]; rfl,HBW.out _⟩
end Go.Proofs.YtedpopbaipnamaaGreatDoor

namespace Go.Proofs.YtedpopbaipnamaaGreatDoor
open Go.RowKit
/-- chk1 of the parts. -/
def chkN (k o:Int) (n:ByteArray) (v:Int) (m:Nat):Nat:=
 if k<1∨4<k then 8
 else if (k≠1∧v≠0)∨(k≠2∧n.size≠0)∨((k=1∨k=2)∧o≠0)∨m≠argsN k then 1
 else if k=1∧(v<0∨1099511627776<v) then 2
 else if k=2∧nmB n=false then 5
 else if (k=3∧o≠1∧o≠2)∨(k=4∧(o<3∨15<o)) then 8
 else 0
theorem chk1_N (e:Ex):chk1 e=chkN e.kind e.op e.name e.val e.args.length:=rfl
set_option maxRecDepth 100000 in
set_option maxHeartbeats 3200000 in
theorem check_out (k o:Int) (n:ByteArray) (v:Int) (A:Option Addr) (m c:Nat) (h:k<1∨4<k) (w:World):Calls Tryz.prog 74 #[.agg (exC k o n v A m c).toArray] w (Ret (.int .i64 8) w):=by
 have hO:=one_new w #[.int .i64 k,.int .i64 o,.string n,.int .i64 v,.slice A m c] 45
 unfold exC Ret
 by_cases h1:k<1
 ·have e1:decide (k<1)=true:=decide_eq_true h1
  go_enter Tryz.func74,Tryz.ntmps74
  go_wp2_with fail
  go_ret
  exact ⟨rfl,hO.below⟩
 ·have e1:decide (k<1)=false:=decide_eq_false h1
  have e2:decide (4<k)=true:=decide_eq_true (by omega)
  go_enter Tryz.func74,Tryz.ntmps74
  go_wp2_with fail
  go_ret
  exact ⟨rfl,hO.below⟩
theorem bne_iff_ne_bytes (a b:ByteArray):(a != b)=true↔a≠b:=by
 unfold bne
 cases h:a == b with
 | true=>simp [(MapKept.bytes_beq a b).1 h]
 | false=>simp only [Bool.not_false,true_iff]; intro e; rw [(MapKept.bytes_beq a b).2 e] at h; cases h
theorem str_eq {n:ByteArray} (h:n.size=0):n=⟨#[]⟩:=by
 obtain ⟨a⟩:=n
 have:a=#[]:=Array.eq_empty_of_size_eq_zero h
 rw [this]
theorem str_ne {n:ByteArray} (h:¬ n.size=0):(n != ⟨#[]⟩)=true:=by
 rw [bne_iff_ne_bytes]
 intro e; rw [e] at h; exact h rfl
theorem str_nl {n:ByteArray} (h:¬ n.size=0):¬ n.toList=[]:=by
 rw [ByteArray.toList_eq]
 intro e
 apply h
 have:n.data.toList.length=n.size:=by simp
 rw [e] at this; exact this.symm
/-- Five cells of a block are set. -/
theorem set5_far (W:World) {B b:Nat} (hne:B≠b) (v0 v1 v2 v3 v4:Value) (j:Nat):(((((W.setCell ⟨B,0,none⟩ v0).setCell ⟨B,1,none⟩ v1).setCell ⟨B,2,none⟩ v2).setCell ⟨B,3,none⟩ v3).setCell ⟨B,4,none⟩ v4).cell? ⟨b,j,none⟩=W.cell? ⟨b,j,none⟩:=by
 rw [World.cell?_setCell_far _ _ _ _ hne,World.cell?_setCell_far _ _ _ _ hne,World.cell?_setCell_far _ _ _ _ hne,World.cell?_setCell_far _ _ _ _ hne,World.cell?_setCell_far _ _ _ _ hne]
theorem set5_size (W:World) (B:Nat) (v0 v1 v2 v3 v4:Value):(((((W.setCell ⟨B,0,none⟩ v0).setCell ⟨B,1,none⟩ v1).setCell ⟨B,2,none⟩ v2).setCell ⟨B,3,none⟩ v3).setCell ⟨B,4,none⟩ v4).heap.size=W.heap.size:=by simp
theorem set5_below {C:Nat} {w W:World} (h:Below C w W) {B:Nat} (hB:C≤B) (v0 v1 v2 v3 v4:Value):Below C w (((((W.setCell ⟨B,0,none⟩ v0).setCell ⟨B,1,none⟩ v1).setCell ⟨B,2,none⟩ v2).setCell ⟨B,3,none⟩ v3).setCell ⟨B,4,none⟩ v4):=
 ((((h.setCell (p:=⟨B,0,none⟩) hB _).setCell (p:=⟨B,1,none⟩) hB _).setCell (p:=⟨B,2,none⟩) hB _).setCell (p:=⟨B,3,none⟩) hB _).setCell (p:=⟨B,4,none⟩) hB _
end Go.Proofs.YtedpopbaipnamaaGreatDoor
