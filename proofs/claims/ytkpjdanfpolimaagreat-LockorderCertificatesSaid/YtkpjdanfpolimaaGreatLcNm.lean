/- Names: program.isName and ref09.IsName, walked. Conditions: the string's length is an int. -/
import Derived.Test.YtkpjdanfpolimaaGreatLcBase
import Derived.Test.YtkpjdanfpolimaaGreatProg
set_option maxRecDepth 100000
set_option maxHeartbeats 3200000
namespace Go.Proofs.YtkpjdanfpolimaaGreat
open Go.RowKit

def smallB (x:Int):Bool:=decide (97≤x) && decide (x≤122)
def otherB (x:Int):Bool:=decide (x=95) || (decide (48≤x) && decide (x≤57))
def okAt (i:Nat) (x:Int):Bool:=smallB x || (decide (0<i) && otherB x)
def okTo (l:List UInt8) (k:Nat):Bool:=(List.range k).all fun i=>okAt i (l.getD i 0).toNat
def nameOk (l:List UInt8):Bool:=okTo l l.length && (decide (1≤l.length) && decide (l.length≤30))
theorem okTo_succ (l:List UInt8) (k:Nat):okTo l (k+1)=(okTo l k && okAt k (l.getD k 0).toNat):=by
 simp [okTo,List.range_succ]
theorem okTo_bad {l:List UInt8} {k:Nat} (hk:k<l.length) (h:okAt k (l.getD k 0).toNat=false):nameOk l=false:=by
 have:okTo l l.length=false:=by
  rw [okTo,List.all_eq_false];exact ⟨k,List.mem_range.2 hk,by rw [h]; decide⟩
 rw [nameOk,this,Bool.false_and]

theorem bytes_conv (s:ByteArray) (w:World):∃ (c:Nat) (W1:World),(convert 9 155 (.string s)).run Tryz.prog w=.ok (.slice (some ⟨w.heap.size,0,none⟩) s.size c) W1∧Below w.heap.size w W1 ∧
  ∀ j (hj:j<s.data.size),W1.cell? ⟨w.heap.size,j,none⟩=some (.int .u8 (s.data[j].toNat:Int)):=by
 refine ⟨_,_,run_bytes_of_string w 9 155 5 s Tryz.underlying9 Tryz.underlying155 Tryz.underlying5,((Below.refl _ _).drew).alloc (Nat.le_refl _) _,fun j hj=>?_⟩;rw [cell_of_row _ w.heap.size j _ _ _ (heap_alloc_new w.drew _),bytesRow_at s _ j hj]

theorem isName_any (s:ByteArray) (hs:s.size≤maxLen) (w:World):Calls Tryz.prog 101 #[.string s] w (Ret (.bool (nameOk s.data.toList)) w):=by
 unfold maxLen at hs;obtain ⟨c,W1,hcv,hb1,hcell⟩:=bytes_conv s w;go_enter Tryz.func101,Tryz.ntmps101;go_wp2_with fail;go_loopw [9] (fun i wr=>∃ k:Nat,i=.int .i64 k∧k≤s.size∧Hid (okTo s.data.toList k=true)∧wr=W1) (fun i _=>s.size - (intOf i).toNat)
 case atStart=>exact ⟨0,rfl,by omega,hid rfl,rfl⟩
 case round=>
  obtain ⟨k,rfl,hk,hto,rfl⟩:=hrel;have hk0:=zi k;by_cases hlt:k<s.size
  ·have hkl:k<s.data.toList.length:=by simpa using hlt
   have hd1:=Dt (show (k:Int)<s.size by omega);have hd2:=Dt hlt;have hlt2:(k:Int)<(s.size:Int):=by omega
   obtain ⟨x,hx⟩:∃ x:Int,x=(s.data[k].toNat:Int):=⟨_,rfl⟩
   have hx0:0≤x:=by omega
   have hx1:x≤255:=by have:=s.data[k].toNat_lt; omega
   have HX:=hid (show x=((s.data.toList.getD k 0).toNat:Int) from by rw [hx]; simp [List.getD,hlt]);have hwr1:=Wi k (by omega);have hcx:=hcell k hlt;rw [← hx] at hcx;clear hx hcell;have hcases:(97≤x∧x≤122)∨(x<97∧k=0)∨(122<x∧k=0)∨(x=95∧0<k)∨(x<48∧0<k)∨((48≤x∧x≤57)∧0<k)∨((57<x∧x<97∧x≠95)∧0<k)∨(122<x∧0<k):=by omega
   rcases hcases with hc | hc | hc | hc | hc | hc | hc | hc
   ·obtain ⟨hc1,hc2⟩:=hc
    have q1:=Dt (show (97:Int)≤x by omega);have q2:=Dt (show x≤122 by omega);have hok:okAt k x=true:=by simp [okAt,smallB,otherB]; omega
    have HOK:=hid hok;clear hok hc1 hc2;go_wp2_with fail
    all_goals exact ⟨⟨k+1,by go_num,by omega,hid (by rw [okTo_succ,hto.out,← HX.out,HOK.out]; rfl),trivial⟩,by simp [intOf]; omega⟩
   ·obtain ⟨hc1,hc2⟩:=hc
    have q1:=Df (show ¬ (97:Int)≤x by omega);have q2:=Dt (show x≤122 by omega);have q9:((k:Int) == 0)=true:=by simp; omega
    have q10:(k == 0)=true:=by simp; omega
    have hok:okAt k x=false:=by simp [okAt,smallB,otherB]; omega
    have HOK:=hid hok;clear hok hc1 hc2;go_wp2_with fail
    all_goals go_ret
    all_goals exact ⟨by rw [okTo_bad hkl (by rw [← HX.out]; exact HOK.out)]; rfl,hb1⟩
   ·obtain ⟨hc1,hc2⟩:=hc
    have q1:=Dt (show (97:Int)≤x by omega);have q2:=Df (show ¬ (x≤122) by omega);have q9:((k:Int) == 0)=true:=by simp; omega
    have q10:(k == 0)=true:=by simp; omega
    have hok:okAt k x=false:=by simp [okAt,smallB,otherB]; omega
    have HOK:=hid hok;clear hok hc1 hc2;go_wp2_with fail
    all_goals go_ret
    all_goals exact ⟨by rw [okTo_bad hkl (by rw [← HX.out]; exact HOK.out)]; rfl,hb1⟩
   ·obtain ⟨hc1,hc2⟩:=hc
    have q1:=Df (show ¬ (97:Int)≤x by omega);have q2:=Dt (show x≤122 by omega);have q3:=Dt (show (48:Int)≤x by omega);have q4:=Df (show ¬ (x≤57) by omega);have q5:=Df (show ¬ (x<48) by omega);have q6:=Dt (show (57:Int)<x by omega);have q7:(x == 95)=true:=by simp [hc1]
    have q8:(x != 95)=false:=by simp [hc1]
    have q9:((k:Int) == 0)=false:=by simp; omega
    have q10:(k == 0)=false:=by simp; omega
    have hok:okAt k x=true:=by simp [okAt,smallB,otherB]; omega
    have HOK:=hid hok;clear hok hc1 hc2;go_wp2_with fail
    all_goals exact ⟨⟨k+1,by go_num,by omega,hid (by rw [okTo_succ,hto.out,← HX.out,HOK.out]; rfl),trivial⟩,by simp [intOf]; omega⟩
   ·obtain ⟨hc1,hc2⟩:=hc
    have q1:=Df (show ¬ (97:Int)≤x by omega);have q2:=Dt (show x≤122 by omega);have q3:=Df (show ¬ (48:Int)≤x by omega);have q4:=Dt (show x≤57 by omega);have q5:=Dt (show x<48 by omega);have q6:=Df (show ¬ (57:Int)<x by omega);have q7:(x == 95)=false:=by simp; omega
    have q8:(x != 95)=true:=by simp; omega
    have q9:((k:Int) == 0)=false:=by simp; omega
    have q10:(k == 0)=false:=by simp; omega
    have hok:okAt k x=false:=by simp [okAt,smallB,otherB]; omega
    have HOK:=hid hok;clear hok hc1 hc2;go_wp2_with fail
    all_goals go_ret
    all_goals exact ⟨by rw [okTo_bad hkl (by rw [← HX.out]; exact HOK.out)]; rfl,hb1⟩
   ·obtain ⟨hc1,hc2⟩:=hc
    have q1:=Df (show ¬ (97:Int)≤x by omega);have q2:=Dt (show x≤122 by omega);have q3:=Dt (show (48:Int)≤x by omega);have q4:=Dt (show x≤57 by omega);have q5:=Df (show ¬ (x<48) by omega);have q6:=Df (show ¬ (57:Int)<x by omega);have q7:(x == 95)=false:=by simp; omega
    have q8:(x != 95)=true:=by simp; omega
    have q9:((k:Int) == 0)=false:=by simp; omega
    have q10:(k == 0)=false:=by simp; omega
    have hok:okAt k x=true:=by simp [okAt,smallB,otherB]; omega
    have HOK:=hid hok;clear hok hc1 hc2;go_wp2_with fail
    all_goals exact ⟨⟨k+1,by go_num,by omega,hid (by rw [okTo_succ,hto.out,← HX.out,HOK.out]; rfl),trivial⟩,by simp [intOf]; omega⟩
   ·obtain ⟨hc1,hc2⟩:=hc
    have q1:=Df (show ¬ (97:Int)≤x by omega);have q2:=Dt (show x≤122 by omega);have q3:=Dt (show (48:Int)≤x by omega);have q4:=Df (show ¬ (x≤57) by omega);have q5:=Df (show ¬ (x<48) by omega);have q6:=Dt (show (57:Int)<x by omega);have q7:(x == 95)=false:=by simp; omega
    have q8:(x != 95)=true:=by simp; omega
    have q9:((k:Int) == 0)=false:=by simp; omega
    have q10:(k == 0)=false:=by simp; omega
    have hok:okAt k x=false:=by simp [okAt,smallB,otherB]; omega
    have HOK:=hid hok;clear hok hc1 hc2;go_wp2_with fail
    all_goals go_ret
    all_goals exact ⟨by rw [okTo_bad hkl (by rw [← HX.out]; exact HOK.out)]; rfl,hb1⟩
   ·obtain ⟨hc1,hc2⟩:=hc
    have q1:=Dt (show (97:Int)≤x by omega);have q2:=Df (show ¬ (x≤122) by omega);have q3:=Dt (show (48:Int)≤x by omega);have q4:=Df (show ¬ (x≤57) by omega);have q5:=Df (show ¬ (x<48) by omega);have q6:=Dt (show (57:Int)<x by omega);have q7:(x == 95)=false:=by simp; omega
    have q8:(x != 95)=true:=by simp; omega
    have q9:((k:Int) == 0)=false:=by simp; omega
    have q10:(k == 0)=false:=by simp; omega
    have hok:okAt k x=false:=by simp [okAt,smallB,otherB]; omega
    have HOK:=hid hok;clear hok hc1 hc2;go_wp2_with fail
    all_goals go_ret
    all_goals exact ⟨by rw [okTo_bad hkl (by rw [← HX.out]; exact HOK.out)]; rfl,hb1⟩
  ·have hd1:=Df (show ¬ (k:Int)<s.size by omega)
   have hd2:=Df hlt;obtain rfl:k=s.size:=by omega
   have hto':okTo s.data.toList s.data.toList.length=true:=by rw [show s.data.toList.length=s.size from by simp]; exact hto.out
   have hl':s.data.toList.length=s.size:=by simp
   have HN:=hid (show nameOk s.data.toList=(decide (1≤s.size) && decide (s.size≤30)) from by rw [nameOk,hto',hl',Bool.true_and]);clear hto';by_cases h1:1≤s.size
   ·have e1:=Dt (show (1:Int)≤(s.size:Int) by omega)
    have e2:=Dt h1;have e3:decide ((s.size:Int)≤30)=decide (s.size≤30):=by by_cases h:s.size≤30 <;> simp [h] <;> omega
    go_wp2_with fail;go_ret;exact ⟨by rw [HN.out,e2,← e3]; rfl,hb1⟩
   ·have e1:=Df (show ¬ ((1:Int)≤(s.size:Int)) by omega)
    have e2:=Df h1;go_wp2_with fail;go_ret;exact ⟨by rw [HN.out,e2]; rfl,hb1⟩
theorem refName_any (s:ByteArray) (hs:s.size≤maxLen) (w:World):Calls Tryz.prog 78 #[.string s] w (Ret (.bool (nameOk s.data.toList)) w):=by
 unfold maxLen at hs;have hl':s.data.toList.length=s.size:=by simp
 have hE:s.toList.isEmpty=decide (s.size=0):=by
  rw [ByteArray.toList_eq]; rw [← hl']; cases s.data.toList <;> simp
 by_cases h0:s.size=0
 ·have e1:s.toList.isEmpty=true:=by rw [hE]; exact decide_eq_true h0
  have HN:=hid (show nameOk s.data.toList=false from by rw [nameOk,hl',h0]; simp);clear hE h0 hl';go_enter Tryz.func78,Tryz.ntmps78;go_wp2_with fail;go_ret;exact ⟨by rw [HN.out]; rfl,Below.refl _ _⟩
 ·have e1:s.toList.isEmpty=false:=by rw [hE]; exact decide_eq_false h0
  by_cases h30:30<s.size
  ·have e2:=Dt (show (30:Int)<s.size by omega)
   have e3:=Dt (show 30<s.size by omega);have HN:=hid (show nameOk s.data.toList=false from by rw [nameOk,hl',decide_eq_false (show ¬ s.size≤30 by omega),Bool.and_false,Bool.and_false]);clear hE h0 hl';go_enter Tryz.func78,Tryz.ntmps78;go_wp2_with fail;go_ret;exact ⟨by rw [HN.out]; rfl,Below.refl _ _⟩
  ·have e2:=Df (show ¬ (30:Int)<s.size by omega)
   have e3:=Df (show ¬ (30<s.size) by omega);have HN:=hid (show nameOk s.data.toList=okTo s.data.toList s.size from by rw [nameOk,hl',decide_eq_true (show s.size≤30 by omega),decide_eq_true (show 1≤s.size by omega),Bool.and_true,Bool.and_true]);clear hE h0;go_enter Tryz.func78,Tryz.ntmps78;go_wp2_with fail;go_loopw [3] (fun i wr=>∃ k:Nat,i=.int .i64 k∧k≤s.size∧Hid (okTo s.data.toList k=true)∧wr=w) (fun i _=>s.size - (intOf i).toNat)
   case atStart=>exact ⟨0,rfl,by omega,hid rfl,rfl⟩
   case round=>
    obtain ⟨k,rfl,hk,hto,rfl⟩:=hrel;have hk0:=zi k;by_cases hlt:k<s.size
    ·have hkl:k<s.data.toList.length:=by simpa using hlt
     have hd1:=Dt (show (k:Int)<s.size by omega);have hd2:=Dt hlt;have hlt2:(k:Int)<(s.size:Int):=by omega
     obtain ⟨x,hx⟩:∃ x:Int,x=(s.data[k].toNat:Int):=⟨_,rfl⟩
     have hx0:0≤x:=by omega
     have hx1:x≤255:=by have:=s.data[k].toNat_lt; omega
     have HX:=hid (show x=((s.data.toList.getD k 0).toNat:Int) from by rw [hx]; simp [List.getD,hlt]);have hwr1:=Wi k (by omega);have hxs:((s[k]'hlt).toNat:Int)=x:=hx.symm;clear hx;have hcases:(97≤x∧x≤122)∨(x<97∧k=0)∨(122<x∧k=0)∨(x=95∧0<k)∨(x<48∧0<k)∨((48≤x∧x≤57)∧0<k)∨((57<x∧x<97∧x≠95)∧0<k)∨(122<x∧0<k):=by omega
     rcases hcases with hc | hc | hc | hc | hc | hc | hc | hc
     ·obtain ⟨hc1,hc2⟩:=hc
      have q1:=Dt (show (97:Int)≤x by omega);have q2:=Dt (show x≤122 by omega);have hok:okAt k x=true:=by simp [okAt,smallB,otherB]; omega
      have HOK:=hid hok;clear hok hc1 hc2;go_wp2_with fail
      all_goals exact ⟨⟨k+1,by go_num,by omega,hid (by rw [okTo_succ,hto.out,← HX.out,HOK.out]; rfl),trivial⟩,by simp [intOf]; omega⟩
     ·obtain ⟨hc1,hc2⟩:=hc
      have q1:=Df (show ¬ (97:Int)≤x by omega);have q2:=Dt (show x≤122 by omega);have q9:((k:Int) == 0)=true:=by simp; omega
      have q10:(k == 0)=true:=by simp; omega
      have hok:okAt k x=false:=by simp [okAt,smallB,otherB]; omega
      have HOK:=hid hok;clear hok hc1 hc2;go_wp2_with fail
      all_goals go_ret
      all_goals exact ⟨by rw [okTo_bad hkl (by rw [← HX.out]; exact HOK.out)]; rfl,Below.refl _ _⟩
     ·obtain ⟨hc1,hc2⟩:=hc
      have q1:=Dt (show (97:Int)≤x by omega);have q2:=Df (show ¬ (x≤122) by omega);have q9:((k:Int) == 0)=true:=by simp; omega
      have q10:(k == 0)=true:=by simp; omega
      have hok:okAt k x=false:=by simp [okAt,smallB,otherB]; omega
      have HOK:=hid hok;clear hok hc1 hc2;go_wp2_with fail
      all_goals go_ret
      all_goals exact ⟨by rw [okTo_bad hkl (by rw [← HX.out]; exact HOK.out)]; rfl,Below.refl _ _⟩
     ·obtain ⟨hc1,hc2⟩:=hc
      have q1:=Df (show ¬ (97:Int)≤x by omega);have q2:=Dt (show x≤122 by omega);have q3:=Dt (show (48:Int)≤x by omega);have q4:=Df (show ¬ (x≤57) by omega);have q5:=Df (show ¬ (x<48) by omega);have q6:=Dt (show (57:Int)<x by omega);have q7:(x == 95)=true:=by simp [hc1]
      have q8:(x != 95)=false:=by simp [hc1]
      have q9:((k:Int) == 0)=false:=by simp; omega
      have q10:(k == 0)=false:=by simp; omega
      have hok:okAt k x=true:=by simp [okAt,smallB,otherB]; omega
      have HOK:=hid hok;clear hok hc1 hc2;go_wp2_with fail
      all_goals exact ⟨⟨k+1,by go_num,by omega,hid (by rw [okTo_succ,hto.out,← HX.out,HOK.out]; rfl),trivial⟩,by simp [intOf]; omega⟩
     ·obtain ⟨hc1,hc2⟩:=hc
      have q1:=Df (show ¬ (97:Int)≤x by omega);have q2:=Dt (show x≤122 by omega);have q3:=Df (show ¬ (48:Int)≤x by omega);have q4:=Dt (show x≤57 by omega);have q5:=Dt (show x<48 by omega);have q6:=Df (show ¬ (57:Int)<x by omega);have q7:(x == 95)=false:=by simp; omega
      have q8:(x != 95)=true:=by simp; omega
      have q9:((k:Int) == 0)=false:=by simp; omega
      have q10:(k == 0)=false:=by simp; omega
      have hok:okAt k x=false:=by simp [okAt,smallB,otherB]; omega
      have HOK:=hid hok;clear hok hc1 hc2;go_wp2_with fail
      all_goals go_ret
      all_goals exact ⟨by rw [okTo_bad hkl (by rw [← HX.out]; exact HOK.out)]; rfl,Below.refl _ _⟩
     ·obtain ⟨hc1,hc2⟩:=hc
      have q1:=Df (show ¬ (97:Int)≤x by omega);have q2:=Dt (show x≤122 by omega);have q3:=Dt (show (48:Int)≤x by omega);have q4:=Dt (show x≤57 by omega);have q5:=Df (show ¬ (x<48) by omega);have q6:=Df (show ¬ (57:Int)<x by omega);have q7:(x == 95)=false:=by simp; omega
      have q8:(x != 95)=true:=by simp; omega
      have q9:((k:Int) == 0)=false:=by simp; omega
      have q10:(k == 0)=false:=by simp; omega
      have hok:okAt k x=true:=by simp [okAt,smallB,otherB]; omega
      have HOK:=hid hok;clear hok hc1 hc2;go_wp2_with fail
      all_goals exact ⟨⟨k+1,by go_num,by omega,hid (by rw [okTo_succ,hto.out,← HX.out,HOK.out]; rfl),trivial⟩,by simp [intOf]; omega⟩
     ·obtain ⟨hc1,hc2⟩:=hc
      have q1:=Df (show ¬ (97:Int)≤x by omega);have q2:=Dt (show x≤122 by omega);have q3:=Dt (show (48:Int)≤x by omega);have q4:=Df (show ¬ (x≤57) by omega);have q5:=Df (show ¬ (x<48) by omega);have q6:=Dt (show (57:Int)<x by omega);have q7:(x == 95)=false:=by simp; omega
      have q8:(x != 95)=true:=by simp; omega
      have q9:((k:Int) == 0)=false:=by simp; omega
      have q10:(k == 0)=false:=by simp; omega
      have hok:okAt k x=false:=by simp [okAt,smallB,otherB]; omega
      have HOK:=hid hok;clear hok hc1 hc2;go_wp2_with fail
      all_goals go_ret
      all_goals exact ⟨by rw [okTo_bad hkl (by rw [← HX.out]; exact HOK.out)]; rfl,Below.refl _ _⟩
     ·obtain ⟨hc1,hc2⟩:=hc
      have q1:=Dt (show (97:Int)≤x by omega);have q2:=Df (show ¬ (x≤122) by omega);have q3:=Dt (show (48:Int)≤x by omega);have q4:=Df (show ¬ (x≤57) by omega);have q5:=Df (show ¬ (x<48) by omega);have q6:=Dt (show (57:Int)<x by omega);have q7:(x == 95)=false:=by simp; omega
      have q8:(x != 95)=true:=by simp; omega
      have q9:((k:Int) == 0)=false:=by simp; omega
      have q10:(k == 0)=false:=by simp; omega
      have hok:okAt k x=false:=by simp [okAt,smallB,otherB]; omega
      have HOK:=hid hok;clear hok hc1 hc2;go_wp2_with fail
      all_goals go_ret
      all_goals exact ⟨by rw [okTo_bad hkl (by rw [← HX.out]; exact HOK.out)]; rfl,Below.refl _ _⟩
    ·have hd1:=Df (show ¬ (k:Int)<s.size by omega)
     have hd2:=Df hlt;obtain rfl:k=s.size:=by omega
     go_wp2_with fail;go_ret;exact ⟨by rw [HN.out,hto.out]; rfl,Below.refl _ _⟩
end Go.Proofs.YtkpjdanfpolimaaGreat
