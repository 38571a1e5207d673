/- nurseryref09.IsName, walked. Conditions: the length is that of a string. -/
import Derived.Test.YtmbffkemfepekaaGreatDoorPtTo
import Derived.Test.YtmbffkemfepekaaGreatDoorPtPrt
namespace Go.Proofs.YtmbffkemfepekaaGreatDoor
open Go.RowKit
set_option maxRecDepth 100000 in
set_option maxHeartbeats 1600000 in
theorem rname_long (s:ByteArray) (h:30<s.size) (w:World):Calls Tryz.prog 149 #[.string s] w fun e W=>e=.returned (.bool false)∧W=w:=by
 have e0:s.toList.isEmpty=false:=by
  have:=str_nl (n:=s) (by omega:¬ s.size=0)
  simpa using this
 have e1:decide ((s.size:Int) > 30)=true:=decide_eq_true (by omega)
 have e2:decide (30<(s.size:Int))=true:=decide_eq_true (by omega)
 have e3:decide (30<s.size)=true:=decide_eq_true (by omega)
 go_enter Tryz.func149,Tryz.ntmps149
 go_wp2_with fail
 go_ret
 exact ⟨rfl,rfl⟩
set_option maxRecDepth 100000 in
set_option maxHeartbeats 1600000 in
theorem rname_empty (w:World):Calls Tryz.prog 149 #[.string ⟨#[]⟩] w fun e W=>e=.returned (.bool false)∧W=w:=by
 go_enter Tryz.func149,Tryz.ntmps149
 go_wp2_with fail
 go_ret
 exact ⟨rfl,rfl⟩
set_option maxRecDepth 100000 in
set_option maxHeartbeats 6400000 in
theorem rname_any (s:ByteArray) (w:World):Calls Tryz.prog 149 #[.string s] w fun e W=>e=.returned (.bool (nmB s))∧W=w:=by
 by_cases h1:s.size=0
 ·rw [nmB_len (.inl (by omega))]
  obtain rfl:=name_nil h1
  exact rname_empty w
 by_cases h2:30<s.size
 ·rw [nmB_len (.inr h2)]
  exact rname_long s h2 w
 have e0:s.toList.isEmpty=false:=by
  have:=str_nl (n:=s) h1
  simpa using this
 have e1:decide ((s.size:Int) > 30)=false:=decide_eq_false (by omega)
 have e2:decide (30<(s.size:Int))=false:=decide_eq_false (by omega)
 have e3:decide (30<s.size)=false:=decide_eq_false (by omega)
 go_enter Tryz.func149,Tryz.ntmps149
 go_wp2_with fail
 go_loopw [3] (fun i wr=>wr=w∧∃ j:Nat,i=.int .i64 (j:Nat)∧j≤s.size∧Hid (okTo s j)) (fun i _=>s.size - (intOf i).toNat)
 case atStart=>exact ⟨rfl,0,rfl,Nat.zero_le _,Lib.hid (fun j h hj=>by omega)⟩
 case round=>
  obtain ⟨rfl,j,rfl,hj,HOK⟩:=hrel
  have hj0:(0:Int)≤(j:Int):=by omega
  by_cases hlt:j<s.size
  ·have hd1:decide ((j:Int)<(s.size:Int))=true:=decide_eq_true (by omega)
   have hd2:decide (j<s.size)=true:=decide_eq_true hlt
   have hjl:(j:Int)<(s.size:Int):=by omega
   have hwr1:IntKind.i64.wrap ((j:Int)+1)=(j:Int)+1:=by rw [IntKind.wrap_i64]; omega
   have HIB:Hid (inB s[j]=(decide (97≤(s[j]).toNat) && decide ((s[j]).toNat≤122) || (decide (48≤(s[j]).toNat) && decide ((s[j]).toNat≤57)) || (s[j]).toNat == 95)):=Lib.hid rfl
   have HLB:Hid (letB s[j]=(decide (97≤(s[j]).toNat) && decide ((s[j]).toNat≤122))):=Lib.hid rfl
   have HN:=Lib.hid (fun h=>nmB_no (s:=s) j hlt h)
   have HS:Hid (inB s[j]=true→(j=0→letB s[j]=true)→okTo s (j+1)):=Lib.hid (fun h1 h2 q hq hq2=>by
    by_cases e:q=j
    ·subst e; exact ⟨h1,h2⟩
    ·exact HOK.out q hq (by omega))
   have hlen:=hlt
   generalize inB s[j]=ib at HIB HN HS
   generalize letB s[j]=lb at HLB HN HS
   generalize hcd:(s[j]'hlt).toNat=c at HIB HLB
   have hcd2:s[j]!.toNat=c:=by rw [getElem!_pos s j hlt]; exact hcd
   clear HOK
   by_cases hA:97≤c
   ·by_cases hB:c≤122
    ·have a1:decide ((c:Int) ≥ 97)=true:=decide_eq_true (by omega)
     have a2:decide (97≤(c:Int))=true:=decide_eq_true (by omega)
     have a3:decide (97≤c)=true:=decide_eq_true (by omega)
     have b1:decide ((c:Int)≤122)=true:=decide_eq_true (by omega)
     have b2:decide (c≤122)=true:=decide_eq_true (by omega)
     have HOK2:Hid (okTo s (j+1)):=Lib.hid (HS.out (by rw [HIB.out,decide_eq_true (by omega:97≤c),decide_eq_true (by omega:c≤122)]; rfl) (fun _=>by rw [HLB.out,decide_eq_true (by omega:97≤c),decide_eq_true (by omega:c≤122)]; rfl))
     clear HIB HLB HN HS
     go_wp2_with fail
     exact ⟨⟨trivial,j+1,by go_num,by omega,HOK2⟩,by simp [intOf]; omega⟩
    ·by_cases h0:j=0
     ·have a1:decide ((c:Int) ≥ 97)=true:=decide_eq_true (by omega)
      have a2:decide (97≤(c:Int))=true:=decide_eq_true (by omega)
      have a3:decide (97≤c)=true:=decide_eq_true (by omega)
      have b1:decide ((c:Int)≤122)=false:=decide_eq_false (by omega)
      have b2:decide (c≤122)=false:=decide_eq_false (by omega)
      have d1:decide ((c:Int) ≥ 48)=true:=decide_eq_true (by omega)
      have d2:decide (48≤(c:Int))=true:=decide_eq_true (by omega)
      have d3:decide (48≤c)=true:=decide_eq_true (by omega)
      have e1:decide ((c:Int)≤57)=false:=decide_eq_false (by omega)
      have e2:decide (c≤57)=false:=decide_eq_false (by omega)
      have f1:((c:Int) == 95)=false:=by simpa using (by omega:¬ (c:Int)=95)
      have f2:(c == 95)=false:=by simpa using (by omega:¬ c=95)
      have g1:((j:Int) == 0)=true:=by simpa using h0
      have g2:(j == 0)=true:=by simpa using h0
      have HNO:=Lib.hid (HN.out (.inr ⟨h0,by rw [HLB.out]; simp <;> omega⟩))
      clear HIB HLB HN HS h0
      go_wp2_with fail
      go_ret
      exact ⟨by rw [HNO.out]; rfl,rfl⟩
     ·have a1:decide ((c:Int) ≥ 97)=true:=decide_eq_true (by omega)
      have a2:decide (97≤(c:Int))=true:=decide_eq_true (by omega)
      have a3:decide (97≤c)=true:=decide_eq_true (by omega)
      have b1:decide ((c:Int)≤122)=false:=decide_eq_false (by omega)
      have b2:decide (c≤122)=false:=decide_eq_false (by omega)
      have d1:decide ((c:Int) ≥ 48)=true:=decide_eq_true (by omega)
      have d2:decide (48≤(c:Int))=true:=decide_eq_true (by omega)
      have d3:decide (48≤c)=true:=decide_eq_true (by omega)
      have e1:decide ((c:Int)≤57)=false:=decide_eq_false (by omega)
      have e2:decide (c≤57)=false:=decide_eq_false (by omega)
      have f1:((c:Int) == 95)=false:=by simpa using (by omega:¬ (c:Int)=95)
      have f2:(c == 95)=false:=by simpa using (by omega:¬ c=95)
      have g1:((j:Int) == 0)=false:=by simpa using h0
      have g2:(j == 0)=false:=by simpa using h0
      have HNO:=Lib.hid (HN.out (.inl (by rw [HIB.out]; simp <;> omega)))
      clear HIB HLB HN HS h0
      go_wp2_with fail
      go_ret
      exact ⟨by rw [HNO.out]; rfl,rfl⟩
   ·by_cases hC:c<48
    ·by_cases h0:j=0
     ·have a1:decide ((c:Int) ≥ 97)=false:=decide_eq_false (by omega)
      have a2:decide (97≤(c:Int))=false:=decide_eq_false (by omega)
      have a3:decide (97≤c)=false:=decide_eq_false (by omega)
      have d1:decide ((c:Int) ≥ 48)=false:=decide_eq_false (by omega)
      have d2:decide (48≤(c:Int))=false:=decide_eq_false (by omega)
      have d3:decide (48≤c)=false:=decide_eq_false (by omega)
      have f1:((c:Int) == 95)=false:=by simpa using (by omega:¬ (c:Int)=95)
      have f2:(c == 95)=false:=by simpa using (by omega:¬ c=95)
      have g1:((j:Int) == 0)=true:=by simpa using h0
      have g2:(j == 0)=true:=by simpa using h0
      have HNO:=Lib.hid (HN.out (.inr ⟨h0,by rw [HLB.out]; simp <;> omega⟩))
      clear HIB HLB HN HS h0
      go_wp2_with fail
      go_ret
      exact ⟨by rw [HNO.out]; rfl,rfl⟩
     ·have a1:decide ((c:Int) ≥ 97)=false:=decide_eq_false (by omega)
      have a2:decide (97≤(c:Int))=false:=decide_eq_false (by omega)
      have a3:decide (97≤c)=false:=decide_eq_false (by omega)
      have d1:decide ((c:Int) ≥ 48)=false:=decide_eq_false (by omega)
      have d2:decide (48≤(c:Int))=false:=decide_eq_false (by omega)
      have d3:decide (48≤c)=false:=decide_eq_false (by omega)
      have f1:((c:Int) == 95)=false:=by simpa using (by omega:¬ (c:Int)=95)
      have f2:(c == 95)=false:=by simpa using (by omega:¬ c=95)
      have g1:((j:Int) == 0)=false:=by simpa using h0
      have g2:(j == 0)=false:=by simpa using h0
      have HNO:=Lib.hid (HN.out (.inl (by rw [HIB.out]; simp <;> omega)))
      clear HIB HLB HN HS h0
      go_wp2_with fail
      go_ret
      exact ⟨by rw [HNO.out]; rfl,rfl⟩
    ·by_cases hD:c≤57
     ·by_cases h0:j=0
      ·have a1:decide ((c:Int) ≥ 97)=false:=decide_eq_false (by omega)
       have a2:decide (97≤(c:Int))=false:=decide_eq_false (by omega)
       have a3:decide (97≤c)=false:=decide_eq_false (by omega)
       have d1:decide ((c:Int) ≥ 48)=true:=decide_eq_true (by omega)
       have d2:decide (48≤(c:Int))=true:=decide_eq_true (by omega)
       have d3:decide (48≤c)=true:=decide_eq_true (by omega)
       have e1:decide ((c:Int)≤57)=true:=decide_eq_true (by omega)
       have e2:decide (c≤57)=true:=decide_eq_true (by omega)
       have g1:((j:Int) == 0)=true:=by simpa using h0
       have g2:(j == 0)=true:=by simpa using h0
       have HNO:=Lib.hid (HN.out (.inr ⟨h0,by rw [HLB.out]; simp <;> omega⟩))
       clear HIB HLB HN HS h0
       go_wp2_with fail
       go_ret
       exact ⟨by rw [HNO.out]; rfl,rfl⟩
      ·have a1:decide ((c:Int) ≥ 97)=false:=decide_eq_false (by omega)
       have a2:decide (97≤(c:Int))=false:=decide_eq_false (by omega)
       have a3:decide (97≤c)=false:=decide_eq_false (by omega)
       have d1:decide ((c:Int) ≥ 48)=true:=decide_eq_true (by omega)
       have d2:decide (48≤(c:Int))=true:=decide_eq_true (by omega)
       have d3:decide (48≤c)=true:=decide_eq_true (by omega)
       have e1:decide ((c:Int)≤57)=true:=decide_eq_true (by omega)
       have e2:decide (c≤57)=true:=decide_eq_true (by omega)
       have g1:((j:Int) == 0)=false:=by simpa using h0
       have g2:(j == 0)=false:=by simpa using h0
       have HOK2:Hid (okTo s (j+1)):=Lib.hid (HS.out (by rw [HIB.out,decide_eq_true (by omega:48≤c),decide_eq_true (by omega:c≤57)]; simp) (fun h=>absurd h h0))
       clear HIB HLB HN HS h0
       go_wp2_with fail
       exact ⟨⟨trivial,j+1,by go_num,by omega,HOK2⟩,by simp [intOf]; omega⟩
     ·by_cases hE:c=95
      ·subst hE
       by_cases h0:j=0
       ·have g1:((j:Int) == 0)=true:=by simpa using h0
        have g2:(j == 0)=true:=by simpa using h0
        have HNO:=Lib.hid (HN.out (.inr ⟨h0,by rw [HLB.out]; simp <;> omega⟩))
        clear HIB HLB HN HS h0
        go_wp2_with fail
        go_ret
        exact ⟨by rw [HNO.out]; rfl,rfl⟩
       ·have g1:((j:Int) == 0)=false:=by simpa using h0
        have g2:(j == 0)=false:=by simpa using h0
        have HOK2:Hid (okTo s (j+1)):=Lib.hid (HS.out (by rw [HIB.out]; simp) (fun h=>absurd h h0))
        clear HIB HLB HN HS h0
        go_wp2_with fail
        exact ⟨⟨trivial,j+1,by go_num,by omega,HOK2⟩,by simp [intOf]; omega⟩
      ·by_cases h0:j=0
       ·have a1:decide ((c:Int) ≥ 97)=false:=decide_eq_false (by omega)
        have a2:decide (97≤(c:Int))=false:=decide_eq_false (by omega)
        have a3:decide (97≤c)=false:=decide_eq_false (by omega)
        have d1:decide ((c:Int) ≥ 48)=true:=decide_eq_true (by omega)
        have d2:decide (48≤(c:Int))=true:=decide_eq_true (by omega)
        have d3:decide (48≤c)=true:=decide_eq_true (by omega)
        have e1:decide ((c:Int)≤57)=false:=decide_eq_false (by omega)
        have e2:decide (c≤57)=false:=decide_eq_false (by omega)
        have f1:((c:Int) == 95)=false:=by simpa using (by omega:¬ (c:Int)=95)
        have f2:(c == 95)=false:=by simpa using (by omega:¬ c=95)
        have g1:((j:Int) == 0)=true:=by simpa using h0
        have g2:(j == 0)=true:=by simpa using h0
        have HNO:=Lib.hid (HN.out (.inr ⟨h0,by rw [HLB.out]; simp <;> omega⟩))
        clear HIB HLB HN HS h0
        go_wp2_with fail
        go_ret
        exact ⟨by rw [HNO.out]; rfl,rfl⟩
       ·have a1:decide ((c:Int) ≥ 97)=false:=decide_eq_false (by omega)
        have a2:decide (97≤(c:Int))=false:=decide_eq_false (by omega)
        have a3:decide (97≤c)=false:=decide_eq_false (by omega)
        have d1:decide ((c:Int) ≥ 48)=true:=decide_eq_true (by omega)
        have d2:decide (48≤(c:Int))=true:=decide_eq_true (by omega)
        have d3:decide (48≤c)=true:=decide_eq_true (by omega)
        have e1:decide ((c:Int)≤57)=false:=decide_eq_false (by omega)
        have e2:decide (c≤57)=false:=decide_eq_false (by omega)
        have f1:((c:Int) == 95)=false:=by simpa using (by omega:¬ (c:Int)=95)
        have f2:(c == 95)=false:=by simpa using (by omega:¬ c=95)
        have g1:((j:Int) == 0)=false:=by simpa using h0
        have g2:(j == 0)=false:=by simpa using h0
        have HNO:=Lib.hid (HN.out (.inl (by rw [HIB.out]; simp <;> omega)))
        clear HIB HLB HN HS h0
        go_wp2_with fail
        go_ret
        exact ⟨by rw [HNO.out]; rfl,rfl⟩
  ·have hd1:decide ((j:Int)<(s.size:Int))=false:=decide_eq_false (by omega)
   have hd2:decide (j<s.size)=false:=decide_eq_false hlt
   have HNO:=Lib.hid (nmB_yes (s:=s) (by have:=HOK.out; rwa [show j=s.size from by omega] at this) (by omega) (by omega))
   clear HOK
   go_wp2_with fail
   go_ret
   exact ⟨by rw [HNO.out]; rfl,rfl⟩
end Go.Proofs.YtmbffkemfepekaaGreatDoor

namespace Go.Proofs.YtmbffkemfepekaaGreatDoor
open Go.RowKit
set_option maxRecDepth 100000 in
set_option maxHeartbeats 3200000 in
theorem rp_klo (k o:Int) (n:ByteArray) (v:Int) (m:Nat) (h:k<1) (A:Option Addr) (c:Nat) (w:World):Calls Tryz.prog 132 #[.agg #[.int .i64 k,.int .i64 o,.string n,.int .i64 v,.slice A m c]] w (Ret (.int .i64 8) w):=by
 have hO:=one_new w #[.int .i64 k,.int .i64 o,.string n,.int .i64 v,.slice A m c] 38
 have q1:decide (k<1)=true:=decide_eq_true (by omega)
 unfold Ret
 go_enter Tryz.func132,Tryz.ntmps132
 go_upto_region 1 with fail
 generalize w.alloc _=w1 at hO ⊢
 obtain ⟨x0,x1,x2,x3,x4⟩:=bx5 hO.fst
 have HB:=Lib.hid hO.below
 clear hO
 go_wp2_with fail
 go_ret
 exact ⟨rfl,HB.out⟩
set_option maxRecDepth 100000 in
set_option maxHeartbeats 3200000 in
theorem rp_khi (k o:Int) (n:ByteArray) (v:Int) (m:Nat) (h:4<k) (A:Option Addr) (c:Nat) (w:World):Calls Tryz.prog 132 #[.agg #[.int .i64 k,.int .i64 o,.string n,.int .i64 v,.slice A m c]] w (Ret (.int .i64 8) w):=by
 have hO:=one_new w #[.int .i64 k,.int .i64 o,.string n,.int .i64 v,.slice A m c] 38
 have q1:decide (k<1)=false:=decide_eq_false (by omega)
 have q2:decide (k > 4)=true:=decide_eq_true (by omega)
 have q3:decide (4<k)=true:=decide_eq_true (by omega)
 unfold Ret
 go_enter Tryz.func132,Tryz.ntmps132
 go_upto_region 1 with fail
 generalize w.alloc _=w1 at hO ⊢
 obtain ⟨x0,x1,x2,x3,x4⟩:=bx5 hO.fst
 have HB:=Lib.hid hO.below
 clear hO
 go_wp2_with fail
 go_ret
 exact ⟨rfl,HB.out⟩
set_option maxRecDepth 100000 in
set_option maxHeartbeats 3200000 in
theorem rp_1n (o:Int) (n:ByteArray) (v:Int) (m:Nat) (h:¬ n.size=0) (A:Option Addr) (c:Nat) (w:World):Calls Tryz.prog 132 #[.agg #[.int .i64 1,.int .i64 o,.string n,.int .i64 v,.slice A m c]] w (Ret (.int .i64 1) w):=by
 have hO:=one_new w #[.int .i64 1,.int .i64 o,.string n,.int .i64 v,.slice A m c] 38
 have n1:n.toList.isEmpty=false:=by simpa using str_nl (n:=n) h
 unfold Ret
 go_enter Tryz.func132,Tryz.ntmps132
 go_upto_region 1 with fail
 generalize w.alloc _=w1 at hO ⊢
 obtain ⟨x0,x1,x2,x3,x4⟩:=bx5 hO.fst
 have HB:=Lib.hid hO.below
 clear hO
 go_upto_region 3 with fail
 go_quiet (fail)
 go_wp2_with fail
 go_ret
 exact ⟨rfl,HB.out.trans (below_drews _ _ _)⟩
set_option maxRecDepth 100000 in
set_option maxHeartbeats 3200000 in
theorem rp_1o (o v:Int) (m:Nat) (h:o≠0) (A:Option Addr) (c:Nat) (w:World):Calls Tryz.prog 132 #[.agg #[.int .i64 1,.int .i64 o,.string ⟨#[]⟩,.int .i64 v,.slice A m c]] w (Ret (.int .i64 1) w):=by
 have hO:=one_new w #[.int .i64 1,.int .i64 o,.string ⟨#[]⟩,.int .i64 v,.slice A m c] 38
 have o1:(o != 0)=true:=by simpa using h
 have o2:(o == 0)=false:=by simpa using h
 unfold Ret
 go_enter Tryz.func132,Tryz.ntmps132
 go_upto_region 1 with fail
 generalize w.alloc _=w1 at hO ⊢
 obtain ⟨x0,x1,x2,x3,x4⟩:=bx5 hO.fst
 have HB:=Lib.hid hO.below
 clear hO
 go_upto_region 3 with fail
 go_quiet (fail)
 go_wp2_with fail
 go_ret
 exact ⟨rfl,HB.out.trans (below_drews _ _ _)⟩
set_option maxRecDepth 100000 in
set_option maxHeartbeats 3200000 in
theorem rp_1m (v:Int) (m:Nat) (h:m≠0) (A:Option Addr) (c:Nat) (w:World):Calls Tryz.prog 132 #[.agg #[.int .i64 1,.int .i64 0,.string ⟨#[]⟩,.int .i64 v,.slice A m c]] w (Ret (.int .i64 1) w):=by
 have hO:=one_new w #[.int .i64 1,.int .i64 0,.string ⟨#[]⟩,.int .i64 v,.slice A m c] 38
 have m1:((m:Int) != 0)=true:=by simpa using (by omega:¬ (m:Int)=0)
 have m2:(m != 0)=true:=by simpa using h
 have m3:((m:Int) == 0)=false:=by simpa using (by omega:¬ (m:Int)=0)
 have m4:(m == 0)=false:=by simpa using h
 unfold Ret
 go_enter Tryz.func132,Tryz.ntmps132
 go_upto_region 1 with fail
 generalize w.alloc _=w1 at hO ⊢
 obtain ⟨x0,x1,x2,x3,x4⟩:=bx5 hO.fst
 have HB:=Lib.hid hO.below
 clear hO
 go_upto_region 3 with fail
 go_quiet (fail)
 go_wp2_with fail
 go_ret
 exact ⟨rfl,HB.out.trans (below_drews _ _ _)⟩
set_option maxRecDepth 100000 in
set_option maxHeartbeats 3200000 in
theorem rp_1lo (v:Int) (h:v<0) (A:Option Addr) (c:Nat) (w:World):Calls Tryz.prog 132 #[.agg #[.int .i64 1,.int .i64 0,.string ⟨#[]⟩,.int .i64 v,.slice A 0 c]] w (Ret (.int .i64 2) w):=by
 have hO:=one_new w #[.int .i64 1,.int .i64 0,.string ⟨#[]⟩,.int .i64 v,.slice A 0 c] 38
 have q1:decide (v<0)=true:=decide_eq_true (by omega)
 unfold Ret
 go_enter Tryz.func132,Tryz.ntmps132
 go_upto_region 1 with fail
 generalize w.alloc _=w1 at hO ⊢
 obtain ⟨x0,x1,x2,x3,x4⟩:=bx5 hO.fst
 have HB:=Lib.hid hO.below
 clear hO
 go_upto_region 3 with fail
 go_quiet (fail)
 go_wp2_with fail
 go_ret
 exact ⟨rfl,HB.out.trans (below_drews _ _ _)⟩
set_option maxRecDepth 100000 in
set_option maxHeartbeats 3200000 in
theorem rp_1hi (v:Int) (h:1099511627776<v) (A:Option Addr) (c:Nat) (w:World):Calls Tryz.prog 132 #[.agg #[.int .i64 1,.int .i64 0,.string ⟨#[]⟩,.int .i64 v,.slice A 0 c]] w (Ret (.int .i64 2) w):=by
 have hO:=one_new w #[.int .i64 1,.int .i64 0,.string ⟨#[]⟩,.int .i64 v,.slice A 0 c] 38
 have q1:decide (v<0)=false:=decide_eq_false (by omega)
 have q2:decide (v > 1099511627776)=true:=decide_eq_true (by omega)
 have q3:decide (1099511627776<v)=true:=decide_eq_true (by omega)
 unfold Ret
 go_enter Tryz.func132,Tryz.ntmps132
 go_upto_region 1 with fail
 generalize w.alloc _=w1 at hO ⊢
 obtain ⟨x0,x1,x2,x3,x4⟩:=bx5 hO.fst
 have HB:=Lib.hid hO.below
 clear hO
 go_upto_region 3 with fail
 go_quiet (fail)
 go_wp2_with fail
 go_ret
 exact ⟨rfl,HB.out.trans (below_drews _ _ _)⟩
set_option maxRecDepth 100000 in
set_option maxHeartbeats 3200000 in
theorem rp_2v (o:Int) (n:ByteArray) (v:Int) (m:Nat) (h:v≠0) (A:Option Addr) (c:Nat) (w:World):Calls Tryz.prog 132 #[.agg #[.int .i64 2,.int .i64 o,.string n,.int .i64 v,.slice A m c]] w (Ret (.int .i64 1) w):=by
 have hO:=one_new w #[.int .i64 2,.int .i64 o,.string n,.int .i64 v,.slice A m c] 38
 have v1:(v != 0)=true:=by simpa using h
 have v2:(v == 0)=false:=by simpa using h
 unfold Ret
 go_enter Tryz.func132,Tryz.ntmps132
 go_upto_region 1 with fail
 generalize w.alloc _=w1 at hO ⊢
 obtain ⟨x0,x1,x2,x3,x4⟩:=bx5 hO.fst
 have HB:=Lib.hid hO.below
 clear hO
 go_upto_region 3 with fail
 go_quiet (fail)
 go_wp2_with fail
 go_ret
 exact ⟨rfl,HB.out.trans (below_drews _ _ _)⟩
set_option maxRecDepth 100000 in
set_option maxHeartbeats 3200000 in
theorem rp_2o (o:Int) (n:ByteArray) (m:Nat) (h:o≠0) (A:Option Addr) (c:Nat) (w:World):Calls Tryz.prog 132 #[.agg #[.int .i64 2,.int .i64 o,.string n,.int .i64 0,.slice A m c]] w (Ret (.int .i64 1) w):=by
 have hO:=one_new w #[.int .i64 2,.int .i64 o,.string n,.int .i64 0,.slice A m c] 38
 have o1:(o != 0)=true:=by simpa using h
 have o2:(o == 0)=false:=by simpa using h
 unfold Ret
 go_enter Tryz.func132,Tryz.ntmps132
 go_upto_region 1 with fail
 generalize w.alloc _=w1 at hO ⊢
 obtain ⟨x0,x1,x2,x3,x4⟩:=bx5 hO.fst
 have HB:=Lib.hid hO.below
 clear hO
 go_upto_region 3 with fail
 go_quiet (fail)
 go_wp2_with fail
 go_ret
 exact ⟨rfl,HB.out.trans (below_drews _ _ _)⟩
set_option maxRecDepth 100000 in
set_option maxHeartbeats 3200000 in
theorem rp_2m (n:ByteArray) (m:Nat) (h:m≠0) (A:Option Addr) (c:Nat) (w:World):Calls Tryz.prog 132 #[.agg #[.int .i64 2,.int .i64 0,.string n,.int .i64 0,.slice A m c]] w (Ret (.int .i64 1) w):=by
 have hO:=one_new w #[.int .i64 2,.int .i64 0,.string n,.int .i64 0,.slice A m c] 38
 have m1:((m:Int) != 0)=true:=by simpa using (by omega:¬ (m:Int)=0)
 have m2:(m != 0)=true:=by simpa using h
 have m3:((m:Int) == 0)=false:=by simpa using (by omega:¬ (m:Int)=0)
 have m4:(m == 0)=false:=by simpa using h
 unfold Ret
 go_enter Tryz.func132,Tryz.ntmps132
 go_upto_region 1 with fail
 generalize w.alloc _=w1 at hO ⊢
 obtain ⟨x0,x1,x2,x3,x4⟩:=bx5 hO.fst
 have HB:=Lib.hid hO.below
 clear hO
 go_upto_region 3 with fail
 go_quiet (fail)
 go_wp2_with fail
 go_ret
 exact ⟨rfl,HB.out.trans (below_drews _ _ _)⟩
set_option maxRecDepth 100000 in
set_option maxHeartbeats 3200000 in
theorem rp_2n (n:ByteArray) (h:nmB n=false) (A:Option Addr) (c:Nat) (w:World):Calls Tryz.prog 132 #[.agg #[.int .i64 2,.int .i64 0,.string n,.int .i64 0,.slice A 0 c]] w (Ret (.int .i64 5) w):=by
 have hO:=one_new w #[.int .i64 2,.int .i64 0,.string n,.int .i64 0,.slice A 0 c] 38
 have HN:Hid (∀ W,Calls Tryz.prog 149 #[.string n] W fun e W1=>e=.returned (.bool false)∧W1=W):=Lib.hid (fun W=>by have:=rname_any n W; rwa [h] at this)
 clear h
 unfold Ret
 go_enter Tryz.func132,Tryz.ntmps132
 go_upto_region 1 with fail
 generalize w.alloc _=w1 at hO ⊢
 obtain ⟨x0,x1,x2,x3,x4⟩:=bx5 hO.fst
 have HB:=Lib.hid hO.below
 clear hO
 go_upto_region 3 with fail
 go_quiet (fail)
 go_wp2_with (go_at_call 149; refine (HN.out _).mono ?_; rintro e W ⟨rfl,rfl⟩)
 go_ret
 exact ⟨rfl,HB.out.trans (below_drews _ _ _)⟩
set_option maxRecDepth 100000 in
set_option maxHeartbeats 3200000 in
theorem rp_3v (o:Int) (n:ByteArray) (v:Int) (m:Nat) (h:v≠0) (A:Option Addr) (c:Nat) (w:World):Calls Tryz.prog 132 #[.agg #[.int .i64 3,.int .i64 o,.string n,.int .i64 v,.slice A m c]] w (Ret (.int .i64 1) w):=by
 have hO:=one_new w #[.int .i64 3,.int .i64 o,.string n,.int .i64 v,.slice A m c] 38
 have v1:(v != 0)=true:=by simpa using h
 have v2:(v == 0)=false:=by simpa using h
 unfold Ret
 go_enter Tryz.func132,Tryz.ntmps132
 go_upto_region 1 with fail
 generalize w.alloc _=w1 at hO ⊢
 obtain ⟨x0,x1,x2,x3,x4⟩:=bx5 hO.fst
 have HB:=Lib.hid hO.below
 clear hO
 go_upto_region 3 with fail
 go_quiet (fail)
 go_wp2_with fail
 go_ret
 exact ⟨rfl,HB.out.trans (below_drews _ _ _)⟩
set_option maxRecDepth 100000 in
set_option maxHeartbeats 3200000 in
theorem rp_3n (o:Int) (n:ByteArray) (m:Nat) (h:¬ n.size=0) (A:Option Addr) (c:Nat) (w:World):Calls Tryz.prog 132 #[.agg #[.int .i64 3,.int .i64 o,.string n,.int .i64 0,.slice A m c]] w (Ret (.int .i64 1) w):=by
 have hO:=one_new w #[.int .i64 3,.int .i64 o,.string n,.int .i64 0,.slice A m c] 38
 have n1:n.toList.isEmpty=false:=by simpa using str_nl (n:=n) h
 unfold Ret
 go_enter Tryz.func132,Tryz.ntmps132
 go_upto_region 1 with fail
 generalize w.alloc _=w1 at hO ⊢
 obtain ⟨x0,x1,x2,x3,x4⟩:=bx5 hO.fst
 have HB:=Lib.hid hO.below
 clear hO
 go_upto_region 3 with fail
 go_quiet (fail)
 go_wp2_with fail
 go_ret
 exact ⟨rfl,HB.out.trans (below_drews _ _ _)⟩
set_option maxRecDepth 100000 in
set_option maxHeartbeats 3200000 in
theorem rp_3m (o:Int) (m:Nat) (h:m≠1) (A:Option Addr) (c:Nat) (w:World):Calls Tryz.prog 132 #[.agg #[.int .i64 3,.int .i64 o,.string ⟨#[]⟩,.int .i64 0,.slice A m c]] w (Ret (.int .i64 1) w):=by
 have hO:=one_new w #[.int .i64 3,.int .i64 o,.string ⟨#[]⟩,.int .i64 0,.slice A m c] 38
 have m1:((m:Int) != 1)=true:=by simpa using (by omega:¬ (m:Int)=1)
 have m2:(m != 1)=true:=by simpa using h
 have m3:((m:Int) == 1)=false:=by simpa using (by omega:¬ (m:Int)=1)
 have m4:(m == 1)=false:=by simpa using h
 unfold Ret
 go_enter Tryz.func132,Tryz.ntmps132
 go_upto_region 1 with fail
 generalize w.alloc _=w1 at hO ⊢
 obtain ⟨x0,x1,x2,x3,x4⟩:=bx5 hO.fst
 have HB:=Lib.hid hO.below
 clear hO
 go_upto_region 3 with fail
 go_quiet (fail)
 go_wp2_with fail
 go_ret
 exact ⟨rfl,HB.out.trans (below_drews _ _ _)⟩
set_option maxRecDepth 100000 in
set_option maxHeartbeats 3200000 in
theorem rp_3o (o:Int) (h1:o≠1) (h2:o≠2) (A:Option Addr) (c:Nat) (w:World):Calls Tryz.prog 132 #[.agg #[.int .i64 3,.int .i64 o,.string ⟨#[]⟩,.int .i64 0,.slice A 1 c]] w (Ret (.int .i64 8) w):=by
 have hO:=one_new w #[.int .i64 3,.int .i64 o,.string ⟨#[]⟩,.int .i64 0,.slice A 1 c] 38
 have o1:(o != 1)=true:=by simpa using h1
 have o2:(o != 2)=true:=by simpa using h2
 have o3:(o == 1)=false:=by simpa using h1
 have o4:(o == 2)=false:=by simpa using h2
 unfold Ret
 go_enter Tryz.func132,Tryz.ntmps132
 go_upto_region 1 with fail
 generalize w.alloc _=w1 at hO ⊢
 obtain ⟨x0,x1,x2,x3,x4⟩:=bx5 hO.fst
 have HB:=Lib.hid hO.below
 clear hO
 go_upto_region 3 with fail
 go_quiet (fail)
 go_wp2_with fail
 go_ret
 exact ⟨rfl,HB.out.trans (below_drews _ _ _)⟩
set_option maxRecDepth 100000 in
set_option maxHeartbeats 3200000 in
theorem rp_4v (o:Int) (n:ByteArray) (v:Int) (m:Nat) (h:v≠0) (A:Option Addr) (c:Nat) (w:World):Calls Tryz.prog 132 #[.agg #[.int .i64 4,.int .i64 o,.string n,.int .i64 v,.slice A m c]] w (Ret (.int .i64 1) w):=by
 have hO:=one_new w #[.int .i64 4,.int .i64 o,.string n,.int .i64 v,.slice A m c] 38
 have v1:(v != 0)=true:=by simpa using h
 have v2:(v == 0)=false:=by simpa using h
 unfold Ret
 go_enter Tryz.func132,Tryz.ntmps132
 go_upto_region 1 with fail
 generalize w.alloc _=w1 at hO ⊢
 obtain ⟨x0,x1,x2,x3,x4⟩:=bx5 hO.fst
 have HB:=Lib.hid hO.below
 clear hO
 go_upto_region 3 with fail
 go_quiet (fail)
 go_wp2_with fail
 go_ret
 exact ⟨rfl,HB.out.trans (below_drews _ _ _)⟩
set_option maxRecDepth 100000 in
set_option maxHeartbeats 3200000 in
theorem rp_4n (o:Int) (n:ByteArray) (m:Nat) (h:¬ n.size=0) (A:Option Addr) (c:Nat) (w:World):Calls Tryz.prog 132 #[.agg #[.int .i64 4,.int .i64 o,.string n,.int .i64 0,.slice A m c]] w (Ret (.int .i64 1) w):=by
 have hO:=one_new w #[.int .i64 4,.int .i64 o,.string n,.int .i64 0,.slice A m c] 38
 have n1:n.toList.isEmpty=false:=by simpa using str_nl (n:=n) h
 unfold Ret
 go_enter Tryz.func132,Tryz.ntmps132
 go_upto_region 1 with fail
 generalize w.alloc _=w1 at hO ⊢
 obtain ⟨x0,x1,x2,x3,x4⟩:=bx5 hO.fst
 have HB:=Lib.hid hO.below
 clear hO
 go_upto_region 3 with fail
 go_quiet (fail)
 go_wp2_with fail
 go_ret
 exact ⟨rfl,HB.out.trans (below_drews _ _ _)⟩
set_option maxRecDepth 100000 in
set_option maxHeartbeats 3200000 in
theorem rp_4m (o:Int) (m:Nat) (h:m≠2) (A:Option Addr) (c:Nat) (w:World):Calls Tryz.prog 132 #[.agg #[.int .i64 4,.int .i64 o,.string ⟨#[]⟩,.int .i64 0,.slice A m c]] w (Ret (.int .i64 1) w):=by
 have hO:=one_new w #[.int .i64 4,.int .i64 o,.string ⟨#[]⟩,.int .i64 0,.slice A m c] 38
 have m1:((m:Int) != 2)=true:=by simpa using (by omega:¬ (m:Int)=2)
 have m2:(m != 2)=true:=by simpa using h
 have m3:((m:Int) == 2)=false:=by simpa using (by omega:¬ (m:Int)=2)
 have m4:(m == 2)=false:=by simpa using h
 unfold Ret
 go_enter Tryz.func132,Tryz.ntmps132
 go_upto_region 1 with fail
 generalize w.alloc _=w1 at hO ⊢
 obtain ⟨x0,x1,x2,x3,x4⟩:=bx5 hO.fst
 have HB:=Lib.hid hO.below
 clear hO
 go_upto_region 3 with fail
 go_quiet (fail)
 go_wp2_with fail
 go_ret
 exact ⟨rfl,HB.out.trans (below_drews _ _ _)⟩
set_option maxRecDepth 100000 in
set_option maxHeartbeats 3200000 in
theorem rp_4lo (o:Int) (h:o<3) (A:Option Addr) (c:Nat) (w:World):Calls Tryz.prog 132 #[.agg #[.int .i64 4,.int .i64 o,.string ⟨#[]⟩,.int .i64 0,.slice A 2 c]] w (Ret (.int .i64 8) w):=by
 have hO:=one_new w #[.int .i64 4,.int .i64 o,.string ⟨#[]⟩,.int .i64 0,.slice A 2 c] 38
 have q1:decide (o<3)=true:=decide_eq_true (by omega)
 unfold Ret
 go_enter Tryz.func132,Tryz.ntmps132
 go_upto_region 1 with fail
 generalize w.alloc _=w1 at hO ⊢
 obtain ⟨x0,x1,x2,x3,x4⟩:=bx5 hO.fst
 have HB:=Lib.hid hO.below
 clear hO
 go_upto_region 3 with fail
 go_quiet (fail)
 go_wp2_with fail
 go_ret
 exact ⟨rfl,HB.out.trans (below_drews _ _ _)⟩
set_option maxRecDepth 100000 in
set_option maxHeartbeats 3200000 in
theorem rp_4hi (o:Int) (h:15<o) (A:Option Addr) (c:Nat) (w:World):Calls Tryz.prog 132 #[.agg #[.int .i64 4,.int .i64 o,.string ⟨#[]⟩,.int .i64 0,.slice A 2 c]] w (Ret (.int .i64 8) w):=by
 have hO:=one_new w #[.int .i64 4,.int .i64 o,.string ⟨#[]⟩,.int .i64 0,.slice A 2 c] 38
 have q1:decide (o<3)=false:=decide_eq_false (by omega)
 have q2:decide (o > 15)=true:=decide_eq_true (by omega)
 have q3:decide (15<o)=true:=decide_eq_true (by omega)
 unfold Ret
 go_enter Tryz.func132,Tryz.ntmps132
 go_upto_region 1 with fail
 generalize w.alloc _=w1 at hO ⊢
 obtain ⟨x0,x1,x2,x3,x4⟩:=bx5 hO.fst
 have HB:=Lib.hid hO.below
 clear hO
 go_upto_region 3 with fail
 go_quiet (fail)
 go_wp2_with fail
 go_ret
 exact ⟨rfl,HB.out.trans (below_drews _ _ _)⟩
end Go.Proofs.YtmbffkemfepekaaGreatDoor

namespace Go.Proofs.YtmbffkemfepekaaGreatDoor
open Go.RowKit
theorem chk1_mk (k o:Int) (n:ByteArray) (v:Int) (xs:List Ex):chk1 (.mk k o n v xs)=if k<1∨4<k then 8 else if (k≠1∧v≠0)∨(k≠2∧n.size≠0)∨((k=1∨k=2)∧o≠0)∨xs.length≠argsN k then 1 else if k=1∧(v<0∨1099511627776<v) then 2 else if k=2∧nmB n=false then 5 else if (k=3∧o≠1∧o≠2)∨(k=4∧(o<3∨15<o)) then 8 else 0:=rfl
theorem rpart_any (e:Ex) (A:Option Addr) (c:Nat) (w:World):Calls Tryz.prog 132 #[.agg (exC e.kind e.op e.name e.val A e.args.length c).toArray] w (Ret (.int .i64 (chk1 e:Nat)) w):=by
 by_cases h0:chk1 e=0
 ·rw [h0]
  exact part_any e (part_of h0) A c w
 obtain ⟨k,o,n,v,xs⟩:=e
 simp only [Ex.kind,Ex.op,Ex.name,Ex.val,Ex.args]
 rw [chk1_mk] at h0 ⊢
 unfold exC
 by_cases h1:k<1∨4<k
 ·rw [if_pos h1]
  rcases h1 with h1 | h1
  ·exact rp_klo k o n v _ h1 A c w
  ·exact rp_khi k o n v _ h1 A c w
 rw [if_neg h1] at h0 ⊢
 have he:(⟨#[]⟩:ByteArray).size=0:=rfl
 have hk:k=1∨k=2∨k=3∨k=4:=by omega
 have hE:∀ (x:Nat),n.size=0→n=⟨#[]⟩:=fun _ h=>name_nil h
 rcases hk with rfl | rfl | rfl | rfl
 ·have a1:argsN 1=0:=rfl
  rw [a1] at h0 ⊢
  by_cases q1:n.size=0
  rotate_left
  ·rw [if_pos (by simp [q1])]; exact rp_1n o n v _ q1 A c w
  obtain rfl:=hE 0 q1
  by_cases q2:o=0
  rotate_left
  ·rw [if_pos (by simp [q2])]; exact rp_1o o v _ q2 A c w
  subst q2
  by_cases q3:xs.length=0
  rotate_left
  ·rw [if_pos (by simp [q3])]; exact rp_1m v _ q3 A c w
  rw [if_neg (by simp [q3,he])] at h0 ⊢
  rw [q3]
  by_cases q4:v<0
  ·rw [if_pos ⟨rfl,.inl q4⟩]; exact rp_1lo v q4 A c w
  by_cases q5:1099511627776<v
  ·rw [if_pos ⟨rfl,.inr q5⟩]; exact rp_1hi v q5 A c w
  exact absurd (by rw [if_neg (by omega),if_neg (by omega),if_neg (by omega)]) h0
 ·have a1:argsN 2=0:=rfl
  rw [a1] at h0 ⊢
  by_cases q1:v=0
  rotate_left
  ·rw [if_pos (by simp [q1])]; exact rp_2v o n v _ q1 A c w
  subst q1
  by_cases q2:o=0
  rotate_left
  ·rw [if_pos (by simp [q2])]; exact rp_2o o n _ q2 A c w
  subst q2
  by_cases q3:xs.length=0
  rotate_left
  ·rw [if_pos (by simp [q3])]; exact rp_2m n _ q3 A c w
  rw [if_neg (by simp [q3]),if_neg (by omega)] at h0 ⊢
  rw [q3]
  cases q4:nmB n with
  | false=>rw [if_pos ⟨rfl,rfl⟩]; exact rp_2n n q4 A c w
  | true=>rw [q4] at h0; exact absurd (by rw [if_neg (by simp),if_neg (by omega)]) h0
 ·have a1:argsN 3=1:=rfl
  rw [a1] at h0 ⊢
  by_cases q1:v=0
  rotate_left
  ·rw [if_pos (by simp [q1])]; exact rp_3v o n v _ q1 A c w
  subst q1
  by_cases q2:n.size=0
  rotate_left
  ·rw [if_pos (by simp [q2])]; exact rp_3n o n _ q2 A c w
  obtain rfl:=hE 0 q2
  by_cases q3:xs.length=1
  rotate_left
  ·rw [if_pos (by simp [q3])]; exact rp_3m o _ q3 A c w
  rw [if_neg (by simp [q3,he]),if_neg (by omega),if_neg (by omega)] at h0 ⊢
  rw [q3]
  by_cases q4:o=1
  ·exact absurd (by rw [if_neg (by omega)]) h0
  by_cases q5:o=2
  ·exact absurd (by rw [if_neg (by omega)]) h0
  rw [if_pos (by omega)]
  exact rp_3o o q4 q5 A c w
 ·have a1:argsN 4=2:=rfl
  rw [a1] at h0 ⊢
  by_cases q1:v=0
  rotate_left
  ·rw [if_pos (by simp [q1])]; exact rp_4v o n v _ q1 A c w
  subst q1
  by_cases q2:n.size=0
  rotate_left
  ·rw [if_pos (by simp [q2])]; exact rp_4n o n _ q2 A c w
  obtain rfl:=hE 0 q2
  by_cases q3:xs.length=2
  rotate_left
  ·rw [if_pos (by simp [q3])]; exact rp_4m o _ q3 A c w
  rw [if_neg (by simp [q3,he]),if_neg (by omega),if_neg (by omega)] at h0 ⊢
  rw [q3]
  by_cases q4:o<3
  ·rw [if_pos (by omega)]; exact rp_4lo o q4 A c w
  by_cases q5:15<o
  ·rw [if_pos (by omega)]; exact rp_4hi o q5 A c w
  exact absurd (by rw [if_neg (by omega)]) h0
theorem chkL_cut (xs:List Ex) (j f:Nat) (h:j<xs.length) (h1:chkL (preL (xs.take j))=0) (h2:chkL (pre xs[j])=f) (hf:f≠0):chkL (preL xs)=f:=by
 have e:xs=xs.take (j+1)++xs.drop (j+1):=(List.take_append_drop _ _).symm
 rw [e,preL_append,chkL_append,pre_take xs j h,chkL_append,if_pos h1,h2,if_neg hf]
set_option maxRecDepth 100000 in
set_option maxHeartbeats 3200000 in
theorem rpartsE_any:∀ (e:Ex) (lo:Nat) (vs:List Value) (w:World),LiesE w lo vs e→lo≤w.heap.size →
  Calls Tryz.prog 74 #[.agg vs.toArray] w (Ret (.int .i64 (chkL (pre e):Nat)) w):=by
 intro e
 induction e using Ex.ind with
 | h k o nm v xs ih=>
  intro lo vs w hL hlo
  obtain ⟨A,cap,rfl,bd,harg⟩:=hL.arg
  have hO:=one_new w #[.int .i64 k,.int .i64 o,.string nm,.int .i64 v,.slice A xs.length cap] 38
  have HARG:=Lib.hid harg
  have HIH:=Lib.hid (fun a ha=>ih a ha)
  have HPT:=Lib.hid (fun W=>rpart_any (.mk k o nm v xs) A cap W)
  have hbd:=bd.2.2.2.2.1
  have HV:Hid (chkL (pre (.mk k o nm v xs))=if chk1 (.mk k o nm v xs)=0 then chkL (preL xs) else chk1 (.mk k o nm v xs)):=Lib.hid (by simp only [pre,chkL])
  simp only [Ex.kind,Ex.op,Ex.name,Ex.val,Ex.args] at HARG HPT hbd ⊢
  clear harg ih hL bd
  unfold exC Ret at HPT
  unfold exC Ret
  generalize chk1 (.mk k o nm v xs)=f at HPT HV
  generalize chkL (pre (.mk k o nm v xs))=R at HV ⊢
  go_enter Tryz.func74,Tryz.ntmps74
  go_upto_region 1 with fail
  generalize w.alloc _=w1 at hO ⊢
  obtain ⟨x0,x1,x2,x3,x4⟩:=bx5 hO.fst
  go_wp2_with fail
  refine (HPT.out _).mono ?_
  rintro e w2 ⟨rfl,hb2⟩
  clear x0 x1 x2 x3 x4 HPT
  replace hO:=hO.next hb2
  clear hb2
  by_cases hf:f=0
  rotate_left
  ·have e1:((f:Int) != 0)=true:=by simpa using hf
   have e2:(f != 0)=true:=by simpa using hf
   have HR:Hid (R=f):=Lib.hid (by rw [HV.out,if_neg hf])
   have HB:=Lib.hid hO.below
   clear hf HV hO
   go_wp2_with fail
   go_ret
   exact ⟨by rw [HR.out]; rfl,HB.out⟩
  subst hf
  have HR:Hid (R=chkL (preL xs)):=Lib.hid (by rw [HV.out,if_pos rfl])
  clear HV
  go_wp2_with fail
  go_loopw [2,4] (fun r i wr=>r=.int .i64 0∧∃ j:Nat,i=.int .i64 (j:Nat)∧j≤xs.length∧Hid (chkL (preL (xs.take j))=0)∧Below w2.heap.size w2 wr) (fun _ i _=>xs.length - (intOf i).toNat)
  case atStart=>exact ⟨rfl,0,rfl,Nat.zero_le _,Lib.hid (by simp [preL,chkL]),Below.refl _ _⟩
  case round=>
   obtain ⟨rfl,j,rfl,hj,HZ,hb⟩:=hrel
   have hj0:(0:Int)≤(j:Int):=by omega
   have hOr:=hO.next hb
   obtain ⟨x0,x1,x2,x3,x4⟩:=bx5 hOr.fst
   have HBW:=Lib.hid hOr.below
   have HB:=Lib.hid hb
   clear hOr hb
   by_cases hlt:j<xs.length
   ·have hd1:decide ((j:Int)<(xs.length:Int))=true:=decide_eq_true (by omega)
    have hwr1:IntKind.i64.wrap ((j:Int)+1)=(j:Int)+1:=by rw [IntKind.wrap_i64]; omega
    have hd2:decide (j<xs.length)=true:=decide_eq_true hlt
    have hjl:(j:Int)<(xs.length:Int):=by omega
    obtain ⟨b1,off,k1,o1,n1,v1,A1,m1,cap1,rfl,hb1,hL1,y0,y1,y2,y3,y4⟩:=HARG.out j hlt
    have z0:=(HBW.out.cell (p:=⟨b1,off+j * 5,none⟩) (by show b1<w.heap.size; omega)).trans y0
    have z1:=(HBW.out.cell (p:=⟨b1,off+j * 5+1,none⟩) (by show b1<w.heap.size; omega)).trans y1
    have z2:=(HBW.out.cell (p:=⟨b1,off+j * 5+2,none⟩) (by show b1<w.heap.size; omega)).trans y2
    have z3:=(HBW.out.cell (p:=⟨b1,off+j * 5+3,none⟩) (by show b1<w.heap.size; omega)).trans y3
    have z4:=(HBW.out.cell (p:=⟨b1,off+j * 5+4,none⟩) (by show b1<w.heap.size; omega)).trans y4
    have hs:=HIH.out xs[j] (List.getElem_mem _) lo _ wr (hL1.below' HBW.out hlo) (Nat.le_trans hlo HBW.out.size)
    have HCUT:=Lib.hid (fun f h2 hf=>chkL_cut xs j f hlt HZ.out h2 hf)
    have HNX:Hid (chkL (pre xs[j])=0→chkL (preL (xs.take (j+1)))=0):=Lib.hid (fun h=>by rw [pre_take xs j hlt,chkL_append,if_pos HZ.out]; exact h)
    unfold exC Ret at hs
    generalize chkL (pre xs[j])=g at hs HCUT HNX
    have HS:=Lib.hid hs
    clear hs hL1 y0 y1 y2 y3 y4 HZ
    by_cases hg:g=0
    ·have HZ2:=Lib.hid (HNX.out hg)
     subst hg
     go_wp2_with fail
     refine HS.out.mono ?_
     rintro e w5 ⟨rfl,hb5⟩
     have HB5:=Lib.hid (HB.out.trans (hb5.mono HB.out.size))
     clear HS hb5 x0 x1 x2 x3 x4 z0 z1 z2 z3 z4
     go_wp2_with fail
     exact ⟨⟨rfl,j+1,by go_num,by omega,HZ2,HB5.out⟩,by simp [intOf]; omega⟩
    ·have e1:((g:Int) != 0)=true:=by simpa using hg
     have e2:(g != 0)=true:=by simpa using hg
     have HQ:=Lib.hid (HCUT.out g rfl hg)
     clear hg HNX
     go_wp2_with fail
     refine HS.out.mono ?_
     rintro e w5 ⟨rfl,hb5⟩
     have HB5:=Lib.hid (HBW.out.trans (hb5.mono HBW.out.size))
     clear HS hb5 x0 x1 x2 x3 x4 z0 z1 z2 z3 z4
     go_wp2_with fail
     go_ret
     exact ⟨by rw [HR.out,HQ.out]; rfl,HB5.out⟩
   ·have hd1:decide ((j:Int)<(xs.length:Int))=false:=decide_eq_false (by omega)
    have hd2:decide (j<xs.length)=false:=decide_eq_false hlt
    have HQ:Hid (chkL (preL xs)=0):=Lib.hid (by have:=HZ.out; rwa [List.take_of_length_le (by omega)] at this)
    go_wp2_with fail
    go_ret
    exact ⟨by rw [HR.out,HQ.out]; rfl,HBW.out⟩
theorem szL_full {zs:List Ex} {m:Nat} (h:100<m):szL zs m=m:=by
 cases zs with
 | nil=>simp [szL]
 | cons a zs=>simp only [szL]; rw [if_pos h]
theorem szL_big {zs:List Ex} (h:∀ a∈zs,∀ n,n≤100→100<n+nP a→100<szE a n):∀ n,100<n+nPL zs→100<szL zs n:=by
 induction zs with
 | nil=>intro n hn; simp only [nPL] at hn; simp only [szL]; omega
 | cons a zs ih=>
  intro n hn
  simp only [nPL] at hn
  simp only [szL]
  by_cases h1:100<n
  ·rw [if_pos h1]; exact h1
  ·rw [if_neg h1]
   by_cases h2:n+nP a≤100
   ·rw [szE_eq a n h2]
    exact ih (fun b hb=>h b (by simp [hb])) _ (by omega)
   ·have h3:=h a (by simp) n (by omega) (by omega)
    rw [szL_full h3]; exact h3
theorem szE_big:∀ (e:Ex) (n:Nat),n≤100→100<n+nP e→100<szE e n:=by
 intro e
 induction e using Ex.ind with
 | h k o nm v zs ih=>
  intro n hn h
  simp only [nP] at h
  simp only [szE]
  exact szL_big ih (n+1) (by omega)
theorem sizeE_big {e:Ex} (h:100<nP e):sizeE e=101:=by
 unfold sizeE
 rw [if_pos (szE_big e 0 (by omega) (by omega))]
set_option maxRecDepth 100000 in
set_option maxHeartbeats 3200000 in
theorem rcheckE_any (e:Ex) (lo:Nat) (vs:List Value) (w:World) (hL:LiesE w lo vs e) (hlo:lo≤w.heap.size) :
  Calls Tryz.prog 43 #[.agg vs.toArray] w (Ret (.int .i64 (chkE e:Nat)) w):=by
 by_cases h0:chkE e=0
 ·rw [h0]; exact rcheck_any e h0 lo vs w hL hlo
 have HSZ:=Lib.hid (fun (W:World) (hb:Below w.heap.size w W)=>sizeE_any e lo vs W (hL.below' hb hlo) (Nat.le_trans hlo hb.size))
 have HPT:=Lib.hid (fun (W:World) (hb:Below w.heap.size w W)=>rpartsE_any e lo vs W (hL.below' hb hlo) (Nat.le_trans hlo hb.size))
 have HL:=Lib.hid hL
 obtain ⟨A,cap,rfl,bd,-⟩:=hL.arg
 have hO:=one_new w #[.int .i64 e.kind,.int .i64 e.op,.string e.name,.int .i64 e.val,.slice A e.args.length cap] 38
 by_cases h1:100<nP e
 ·have HV:Hid (chkE e=4):=Lib.hid (by unfold chkE; rw [if_pos h1])
  rw [sizeE_big h1] at HSZ
  unfold exC Ret at HSZ
  unfold exC Ret
  generalize chkE e=f at HV ⊢
  generalize e.kind=k at *
  generalize e.op=o at *
  generalize e.name=n at *
  generalize e.val=v at *
  generalize e.args.length=m at *
  clear hL bd h0 h1 HPT HL
  go_enter Tryz.func43,Tryz.ntmps43
  go_upto_region 1 with fail
  generalize w.alloc _=w1 at hO ⊢
  obtain ⟨x0,x1,x2,x3,x4⟩:=bx5 hO.fst
  go_wp2_with fail
  refine (HSZ.out _ hO.below).mono ?_
  rintro e2 w2 ⟨rfl,hb2⟩
  have HB:=Lib.hid (hO.below.trans (hb2.mono hO.below.size))
  go_wp2_with fail
  go_ret
  exact ⟨by rw [HV.out]; rfl,HB.out⟩
 ·have HDP:=Lib.hid (fun (W:World) (hb:Below w.heap.size w W)=>depth_any e lo _ W (by have:=dP_le_nP e; omega) (HL.out.below' hb hlo) (Nat.le_trans hlo hb.size))
  have HV:Hid (chkE e=if 12<dP e then 22 else chkL (pre e)):=Lib.hid (by unfold chkE; rw [if_neg h1])
  rw [sizeE_ok (by omega)] at HSZ
  unfold exC Ret at HSZ HDP HPT
  unfold exC Ret
  generalize chkE e=f at HV ⊢
  generalize chkL (pre e)=q at HV HPT
  generalize nP e=p at HSZ h1
  generalize dP e=d at HDP HV
  generalize e.kind=k at *
  generalize e.op=o at *
  generalize e.name=n at *
  generalize e.val=v at *
  generalize e.args.length=m at *
  have c1:decide ((p:Int) > 100)=false:=decide_eq_false (by omega)
  have c2:decide (100<(p:Int))=false:=decide_eq_false (by omega)
  have c3:decide (100<p)=false:=decide_eq_false (by omega)
  clear hL bd h0 h1 HL
  by_cases hd:12<d
  ·have c4:decide ((d:Int) > 12)=true:=decide_eq_true (by omega)
   have c5:decide (12<(d:Int))=true:=decide_eq_true (by omega)
   have c6:decide (12<d)=true:=decide_eq_true (by omega)
   replace HV:Hid (f=22):=Lib.hid (by rw [HV.out,if_pos hd])
   clear hd HPT
   go_enter Tryz.func43,Tryz.ntmps43
   go_upto_region 1 with fail
   generalize w.alloc _=w1 at hO ⊢
   obtain ⟨x0,x1,x2,x3,x4⟩:=bx5 hO.fst
   go_wp2_with fail
   refine (HSZ.out _ hO.below).mono ?_
   rintro e2 w2 ⟨rfl,hb2⟩
   clear x0 x1 x2 x3 x4
   replace hO:=hO.next hb2
   obtain ⟨x0,x1,x2,x3,x4⟩:=bx5 hO.fst
   clear hb2
   go_wp2_with fail
   refine (HDP.out _ hO.below).mono ?_
   rintro e3 w3 ⟨rfl,hb3⟩
   have HB:=Lib.hid (hO.below.trans (hb3.mono hO.below.size))
   clear x0 x1 x2 x3 x4 hO hb3
   go_wp2_with fail
   go_ret
   exact ⟨by rw [HV.out]; rfl,HB.out⟩
  ·have c4:decide ((d:Int) > 12)=false:=decide_eq_false (by omega)
   have c5:decide (12<(d:Int))=false:=decide_eq_false (by omega)
   have c6:decide (12<d)=false:=decide_eq_false (by omega)
   replace HV:Hid (f=q):=Lib.hid (by rw [HV.out,if_neg hd])
   clear hd
   go_enter Tryz.func43,Tryz.ntmps43
   go_upto_region 1 with fail
   generalize w.alloc _=w1 at hO ⊢
   obtain ⟨x0,x1,x2,x3,x4⟩:=bx5 hO.fst
   go_wp2_with fail
   refine (HSZ.out _ hO.below).mono ?_
   rintro e2 w2 ⟨rfl,hb2⟩
   clear x0 x1 x2 x3 x4
   replace hO:=hO.next hb2
   obtain ⟨x0,x1,x2,x3,x4⟩:=bx5 hO.fst
   clear hb2
   go_wp2_with fail
   refine (HDP.out _ hO.below).mono ?_
   rintro e3 w3 ⟨rfl,hb3⟩
   clear x0 x1 x2 x3 x4
   replace hO:=hO.next hb3
   obtain ⟨x0,x1,x2,x3,x4⟩:=bx5 hO.fst
   clear hb3
   go_wp2_with fail
   refine (HPT.out _ hO.below).mono ?_
   rintro e4 w4 ⟨rfl,hb4⟩
   have HB:=Lib.hid (hO.below.trans (hb4.mono hO.below.size))
   go_wp2_with fail
   go_ret
   exact ⟨by rw [HV.out]; rfl,HB.out⟩
end Go.Proofs.YtmbffkemfepekaaGreatDoor

namespace Go.Proofs.YtmbffkemfepekaaGreatDoor
open Go.RowKit Go.Sort
set_option maxRecDepth 100000 in
set_option maxHeartbeats 6400000 in
theorem rprintE_any (e:Ex) (lo:Nat) (vs:List Value) (w:World) (hL:LiesE w lo vs e) (hlo:lo≤w.heap.size) :
  Calls Tryz.prog 20 #[.agg vs.toArray] w (Ret (prtV e) w):=by
 have HC:=Lib.hid (fun (W:World) (hb:Below w.heap.size w W)=>rcheckE_any e lo vs W (hL.below' hb hlo) (Nat.le_trans hlo hb.size))
 have HT:=Lib.hid (fun (h:chkE e=0) (W:World) (hb:Below w.heap.size w W)=>rtext_any e (good_of e h).1 (good_of e h).2.1 lo vs W (hL.below' hb hlo) (Nat.le_trans hlo hb.size))
 have HP:Hid (prtV e=if chkE e=0 then .tuple #[.string (strT (wrE e)),.int .i64 0] else .tuple #[.string ⟨#[]⟩,.int .i64 (chkE e:Nat)]):=Lib.hid rfl
 generalize prtV e=pv at HP ⊢
 obtain ⟨A,c,e1,-,-⟩:=hL.arg
 unfold exC at e1
 subst e1
 unfold Ret at HC HT ⊢
 generalize chkE e=ce at HC HP HT
 generalize strT (wrE e)=tb at HP HT
 have hO:=one_new w #[.int .i64 e.kind,.int .i64 e.op,.string e.name,.int .i64 e.val,.slice A e.args.length c] 38
 clear hL hlo
 generalize e.kind=k at *
 generalize e.op=o at *
 generalize e.name=n at *
 generalize e.val=v at *
 generalize e.args.length=m at *
 by_cases hce:ce=0
 ·replace HT:=Lib.hid (HT.out hce)
  have HV:Hid (pv=.tuple #[.string tb,.int .i64 0]):=Lib.hid (by rw [HP.out,if_pos hce])
  subst hce
  clear HP
  go_enter Tryz.func20,Tryz.ntmps20
  go_upto_region 1 with fail
  generalize w.alloc _=w1 at hO ⊢
  obtain ⟨x0,x1,x2,x3,x4⟩:=bx5 hO.fst
  go_wp2_with fail
  refine (HC.out _ hO.below).mono ?_
  rintro e2 w2 ⟨rfl,hb2⟩
  replace hO:=hO.next hb2
  clear x0 x1 x2 x3 x4 hb2
  obtain ⟨x0,x1,x2,x3,x4⟩:=bx5 hO.fst
  go_wp2_with fail
  refine (HT.out _ hO.below).mono ?_
  rintro e2 w3 ⟨rfl,hb3⟩
  have HB:=Lib.hid (hO.below.trans (hb3.mono hO.below.size))
  go_wp2_with fail
  go_ret2
  exact ⟨HV.out.symm ▸ rfl,HB.out⟩
 ·have n0:((ce:Nat):Int)≠0:=by omega
  have n1:(((ce:Nat):Int) != 0)=true:=by simpa using hce
  have n2:(ce != 0)=true:=by simpa using hce
  have HV:Hid (pv=.tuple #[.string ⟨#[]⟩,.int .i64 (ce:Nat)]):=Lib.hid (by rw [HP.out,if_neg hce])
  clear HP HT hce
  go_enter Tryz.func20,Tryz.ntmps20
  go_upto_region 1 with fail
  generalize w.alloc _=w1 at hO ⊢
  obtain ⟨x0,x1,x2,x3,x4⟩:=bx5 hO.fst
  go_wp2_with fail
  refine (HC.out _ hO.below).mono ?_
  rintro e2 w2 ⟨rfl,hb2⟩
  have HB:=Lib.hid (hO.below.trans (hb2.mono hO.below.size))
  go_wp2_with fail
  go_ret2
  exact ⟨HV.out.symm ▸ rfl,HB.out⟩
end Go.Proofs.YtmbffkemfepekaaGreatDoor
