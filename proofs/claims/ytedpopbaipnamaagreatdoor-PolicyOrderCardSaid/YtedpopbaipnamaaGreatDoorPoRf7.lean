/- nurseryref09.number, product and Operate, walked. Conditions: the values are within the bounds of values. -/
import Derived.Test.YtedpopbaipnamaaGreatDoorPoRfM
import Derived.Test.YtedpopbaipnamaaGreatDoorPoTyE
import Derived.Test.YtedpopbaipnamaaGreatDoorPoTyp
namespace Go.Proofs.YtedpopbaipnamaaGreatDoor
open Go.RowKit
set_option maxRecDepth 100000
theorem rnumber_any (b:Bool) (w:World):Calls Tryz.prog 163 #[.bool b] w (RetP (.int .i64 (oneI b)) w):=by
 unfold RetP
 cases b
 all_goals (
  go_enter Tryz.func163,Tryz.ntmps163
  go_wp2_with fail
  go_ret
  exact ⟨rfl,rfl⟩)
theorem capA_mul (a b:Int):capA (.ok (a * b))=if 1099511627776<(a * b).natAbs then .er 14 else .ok (a * b):=by simp only [capA]
/-- The comparison that product makes. -/
theorem prod_cmp {x y:Nat} (hx:x≠0):(1099511627776 / x<y)↔1099511627776<y * x:=Nat.div_lt_iff_lt_mul (by omega)
set_option maxHeartbeats 3200000 in
theorem rprod_pp (a b:Int) (ha:Sm a) (hb:Sm b) (h1:0≤a) (h2:0≤b) (w:World):Calls Tryz.prog 162 #[.int .i64 a,.int .i64 b] w (RetP (ansV (capA (.ok (a * b)))) w):=by
 unfold RetP ansV
 unfold Sm at ha hb
 have s1:decide (a<0)=false:=decide_eq_false (by omega)
 have s2:decide (b<0)=false:=decide_eq_false (by omega)
 have hxa:a=(a.natAbs:Int):=by omega
 have hyb:b=(b.natAbs:Int):=by omega
 have HAB:=Lib.hid (Int.natAbs_mul a b)
 by_cases x0:a=0
 ·have z1:(a != 0)=false:=by simpa using x0
  have hx0:a.natAbs=0:=by omega
  have HV:Hid (capA (.ok (a * b))=.ok (a * b)):=Lib.hid (by rw [capA_mul,HAB.out,hx0,if_neg (by simp)])
  have wm:IntKind.i64.wrap (a * b)=a * b:=by rw [IntKind.wrap_i64]; have:=HAB.out; rw [hx0,Nat.zero_mul] at this; omega
  clear x0 hxa hyb ha hb h1 h2 hx0
  go_enter Tryz.func162,Tryz.ntmps162
  go_wp2_with fail
  go_ret2
  exact ⟨by rw [HV.out]; rfl,rfl⟩
 ·have z1:(a != 0)=true:=by simpa using x0
  have z2:(a == 0)=false:=by simpa using x0
  have hn0:a.natAbs≠0:=by omega
  have hq:Int.tdiv 1099511627776 a=((1099511627776 / a.natAbs:Nat):Int):=by rw [hxa]; exact tdiv_nat 1099511627776 a.natAbs
  have HC:=Lib.hid (prod_cmp (y:=b.natAbs) hn0)
  have hqb:1099511627776 / a.natAbs≤1099511627776:=Nat.div_le_self _ _
  generalize (1099511627776 / a.natAbs:Nat)=q at hq HC hqb
  have wq:IntKind.i64.wrap (q:Int)=(q:Int):=by rw [IntKind.wrap_i64]; omega
  have hxi:a≠0:=x0
  by_cases hg:q<b.natAbs
  ·have c1:decide (b > (q:Int))=true:=decide_eq_true (by omega)
   have c2:decide ((q:Int)<b)=true:=decide_eq_true (by omega)
   have HV:Hid (capA (.ok (a * b))=.er 14):=Lib.hid (by rw [capA_mul,HAB.out,if_pos (by have:=HC.out.1 hg; rw [Nat.mul_comm]; exact this)])
   clear x0 hxa hyb ha hb h1 h2 hg hqb hn0
   go_enter Tryz.func162,Tryz.ntmps162
   go_wp2_with fail
   go_ret2
   exact ⟨by rw [HV.out]; rfl,rfl⟩
  ·have c1:decide (b > (q:Int))=false:=decide_eq_false (by omega)
   have c2:decide ((q:Int)<b)=false:=decide_eq_false (by omega)
   have hle:¬ 1099511627776<a.natAbs * b.natAbs:=fun h=>hg (HC.out.2 (by rw [Nat.mul_comm]; exact h))
   have HV:Hid (capA (.ok (a * b))=.ok (a * b)):=Lib.hid (by rw [capA_mul,HAB.out,if_neg hle])
   have wm:IntKind.i64.wrap (a * b)=a * b:=by rw [IntKind.wrap_i64]; have:=HAB.out; omega
   clear x0 hxa hyb ha hb h1 h2 hg hqb hle hn0
   go_enter Tryz.func162,Tryz.ntmps162
   go_wp2_with fail
   go_ret2
   exact ⟨by rw [HV.out]; rfl,rfl⟩
set_option maxHeartbeats 3200000 in
theorem rprod_pn (a b:Int) (ha:Sm a) (hb:Sm b) (h1:0≤a) (h2:b<0) (w:World):Calls Tryz.prog 162 #[.int .i64 a,.int .i64 b] w (RetP (ansV (capA (.ok (a * b)))) w):=by
 unfold RetP ansV
 unfold Sm at ha hb
 have s1:decide (a<0)=false:=decide_eq_false (by omega)
 have s2:decide (b<0)=true:=decide_eq_true (by omega)
 obtain ⟨y,w2,hy⟩:∃ y:Int,IntKind.i64.wrap (-b)=y∧y = -b:=⟨-b,by rw [IntKind.wrap_i64]; omega,rfl⟩
 have hxa:a=(a.natAbs:Int):=by omega
 have hyb:y=(b.natAbs:Int):=by omega
 have HAB:=Lib.hid (Int.natAbs_mul a b)
 by_cases x0:a=0
 ·have z1:(a != 0)=false:=by simpa using x0
  have hx0:a.natAbs=0:=by omega
  have HV:Hid (capA (.ok (a * b))=.ok (a * b)):=Lib.hid (by rw [capA_mul,HAB.out,hx0,if_neg (by simp)])
  have wm:IntKind.i64.wrap (a * b)=a * b:=by rw [IntKind.wrap_i64]; have:=HAB.out; rw [hx0,Nat.zero_mul] at this; omega
  clear x0 hxa hyb ha hb h1 h2 hx0 hy
  go_enter Tryz.func162,Tryz.ntmps162
  go_wp2_with fail
  go_ret2
  exact ⟨by rw [HV.out]; rfl,rfl⟩
 ·have z1:(a != 0)=true:=by simpa using x0
  have z2:(a == 0)=false:=by simpa using x0
  have hn0:a.natAbs≠0:=by omega
  have hq:Int.tdiv 1099511627776 a=((1099511627776 / a.natAbs:Nat):Int):=by rw [hxa]; exact tdiv_nat 1099511627776 a.natAbs
  have HC:=Lib.hid (prod_cmp (y:=b.natAbs) hn0)
  have hqb:1099511627776 / a.natAbs≤1099511627776:=Nat.div_le_self _ _
  generalize (1099511627776 / a.natAbs:Nat)=q at hq HC hqb
  have wq:IntKind.i64.wrap (q:Int)=(q:Int):=by rw [IntKind.wrap_i64]; omega
  have hxi:a≠0:=x0
  by_cases hg:q<b.natAbs
  ·have c1:decide (y > (q:Int))=true:=decide_eq_true (by omega)
   have c2:decide ((q:Int)<y)=true:=decide_eq_true (by omega)
   have HV:Hid (capA (.ok (a * b))=.er 14):=Lib.hid (by rw [capA_mul,HAB.out,if_pos (by have:=HC.out.1 hg; rw [Nat.mul_comm]; exact this)])
   clear x0 hxa hyb ha hb h1 h2 hg hqb hn0 hy
   go_enter Tryz.func162,Tryz.ntmps162
   go_wp2_with fail
   go_ret2
   exact ⟨by rw [HV.out]; rfl,rfl⟩
  ·have c1:decide (y > (q:Int))=false:=decide_eq_false (by omega)
   have c2:decide ((q:Int)<y)=false:=decide_eq_false (by omega)
   have hle:¬ 1099511627776<a.natAbs * b.natAbs:=fun h=>hg (HC.out.2 (by rw [Nat.mul_comm]; exact h))
   have HV:Hid (capA (.ok (a * b))=.ok (a * b)):=Lib.hid (by rw [capA_mul,HAB.out,if_neg hle])
   have wm:IntKind.i64.wrap (a * b)=a * b:=by rw [IntKind.wrap_i64]; have:=HAB.out; omega
   clear x0 hxa hyb ha hb h1 h2 hg hqb hle hn0 hy
   go_enter Tryz.func162,Tryz.ntmps162
   go_wp2_with fail
   go_ret2
   exact ⟨by rw [HV.out]; rfl,rfl⟩
set_option maxHeartbeats 3200000 in
theorem rprod_np (a b:Int) (ha:Sm a) (hb:Sm b) (h1:a<0) (h2:0≤b) (w:World):Calls Tryz.prog 162 #[.int .i64 a,.int .i64 b] w (RetP (ansV (capA (.ok (a * b)))) w):=by
 unfold RetP ansV
 unfold Sm at ha hb
 have s1:decide (a<0)=true:=decide_eq_true (by omega)
 have s2:decide (b<0)=false:=decide_eq_false (by omega)
 obtain ⟨x,w1,hx⟩:∃ x:Int,IntKind.i64.wrap (-a)=x∧x = -a:=⟨-a,by rw [IntKind.wrap_i64]; omega,rfl⟩
 have hxa:x=(a.natAbs:Int):=by omega
 have hyb:b=(b.natAbs:Int):=by omega
 have HAB:=Lib.hid (Int.natAbs_mul a b)
 by_cases x0:x=0
 ·have z1:(x != 0)=false:=by simpa using x0
  have hx0:a.natAbs=0:=by omega
  have HV:Hid (capA (.ok (a * b))=.ok (a * b)):=Lib.hid (by rw [capA_mul,HAB.out,hx0,if_neg (by simp)])
  have wm:IntKind.i64.wrap (a * b)=a * b:=by rw [IntKind.wrap_i64]; have:=HAB.out; rw [hx0,Nat.zero_mul] at this; omega
  clear x0 hxa hyb ha hb h1 h2 hx0 hx
  go_enter Tryz.func162,Tryz.ntmps162
  go_wp2_with fail
  go_ret2
  exact ⟨by rw [HV.out]; rfl,rfl⟩
 ·have z1:(x != 0)=true:=by simpa using x0
  have z2:(x == 0)=false:=by simpa using x0
  have hn0:a.natAbs≠0:=by omega
  have hq:Int.tdiv 1099511627776 x=((1099511627776 / a.natAbs:Nat):Int):=by rw [hxa]; exact tdiv_nat 1099511627776 a.natAbs
  have HC:=Lib.hid (prod_cmp (y:=b.natAbs) hn0)
  have hqb:1099511627776 / a.natAbs≤1099511627776:=Nat.div_le_self _ _
  generalize (1099511627776 / a.natAbs:Nat)=q at hq HC hqb
  have wq:IntKind.i64.wrap (q:Int)=(q:Int):=by rw [IntKind.wrap_i64]; omega
  have hxi:x≠0:=x0
  by_cases hg:q<b.natAbs
  ·have c1:decide (b > (q:Int))=true:=decide_eq_true (by omega)
   have c2:decide ((q:Int)<b)=true:=decide_eq_true (by omega)
   have HV:Hid (capA (.ok (a * b))=.er 14):=Lib.hid (by rw [capA_mul,HAB.out,if_pos (by have:=HC.out.1 hg; rw [Nat.mul_comm]; exact this)])
   clear x0 hxa hyb ha hb h1 h2 hg hqb hn0 hx
   go_enter Tryz.func162,Tryz.ntmps162
   go_wp2_with fail
   go_ret2
   exact ⟨by rw [HV.out]; rfl,rfl⟩
  ·have c1:decide (b > (q:Int))=false:=decide_eq_false (by omega)
   have c2:decide ((q:Int)<b)=false:=decide_eq_false (by omega)
   have hle:¬ 1099511627776<a.natAbs * b.natAbs:=fun h=>hg (HC.out.2 (by rw [Nat.mul_comm]; exact h))
   have HV:Hid (capA (.ok (a * b))=.ok (a * b)):=Lib.hid (by rw [capA_mul,HAB.out,if_neg hle])
   have wm:IntKind.i64.wrap (a * b)=a * b:=by rw [IntKind.wrap_i64]; have:=HAB.out; omega
   clear x0 hxa hyb ha hb h1 h2 hg hqb hle hn0 hx
   go_enter Tryz.func162,Tryz.ntmps162
   go_wp2_with fail
   go_ret2
   exact ⟨by rw [HV.out]; rfl,rfl⟩
set_option maxHeartbeats 3200000 in
theorem rprod_nn (a b:Int) (ha:Sm a) (hb:Sm b) (h1:a<0) (h2:b<0) (w:World):Calls Tryz.prog 162 #[.int .i64 a,.int .i64 b] w (RetP (ansV (capA (.ok (a * b)))) w):=by
 unfold RetP ansV
 unfold Sm at ha hb
 have s1:decide (a<0)=true:=decide_eq_true (by omega)
 have s2:decide (b<0)=true:=decide_eq_true (by omega)
 obtain ⟨x,w1,hx⟩:∃ x:Int,IntKind.i64.wrap (-a)=x∧x = -a:=⟨-a,by rw [IntKind.wrap_i64]; omega,rfl⟩
 obtain ⟨y,w2,hy⟩:∃ y:Int,IntKind.i64.wrap (-b)=y∧y = -b:=⟨-b,by rw [IntKind.wrap_i64]; omega,rfl⟩
 have hxa:x=(a.natAbs:Int):=by omega
 have hyb:y=(b.natAbs:Int):=by omega
 have HAB:=Lib.hid (Int.natAbs_mul a b)
 by_cases x0:x=0
 ·have z1:(x != 0)=false:=by simpa using x0
  have hx0:a.natAbs=0:=by omega
  have HV:Hid (capA (.ok (a * b))=.ok (a * b)):=Lib.hid (by rw [capA_mul,HAB.out,hx0,if_neg (by simp)])
  have wm:IntKind.i64.wrap (a * b)=a * b:=by rw [IntKind.wrap_i64]; have:=HAB.out; rw [hx0,Nat.zero_mul] at this; omega
  clear x0 hxa hyb ha hb h1 h2 hx0 hx hy
  go_enter Tryz.func162,Tryz.ntmps162
  go_wp2_with fail
  go_ret2
  exact ⟨by rw [HV.out]; rfl,rfl⟩
 ·have z1:(x != 0)=true:=by simpa using x0
  have z2:(x == 0)=false:=by simpa using x0
  have hn0:a.natAbs≠0:=by omega
  have hq:Int.tdiv 1099511627776 x=((1099511627776 / a.natAbs:Nat):Int):=by rw [hxa]; exact tdiv_nat 1099511627776 a.natAbs
  have HC:=Lib.hid (prod_cmp (y:=b.natAbs) hn0)
  have hqb:1099511627776 / a.natAbs≤1099511627776:=Nat.div_le_self _ _
  generalize (1099511627776 / a.natAbs:Nat)=q at hq HC hqb
  have wq:IntKind.i64.wrap (q:Int)=(q:Int):=by rw [IntKind.wrap_i64]; omega
  have hxi:x≠0:=x0
  by_cases hg:q<b.natAbs
  ·have c1:decide (y > (q:Int))=true:=decide_eq_true (by omega)
   have c2:decide ((q:Int)<y)=true:=decide_eq_true (by omega)
   have HV:Hid (capA (.ok (a * b))=.er 14):=Lib.hid (by rw [capA_mul,HAB.out,if_pos (by have:=HC.out.1 hg; rw [Nat.mul_comm]; exact this)])
   clear x0 hxa hyb ha hb h1 h2 hg hqb hn0 hx hy
   go_enter Tryz.func162,Tryz.ntmps162
   go_wp2_with fail
   go_ret2
   exact ⟨by rw [HV.out]; rfl,rfl⟩
  ·have c1:decide (y > (q:Int))=false:=decide_eq_false (by omega)
   have c2:decide ((q:Int)<y)=false:=decide_eq_false (by omega)
   have hle:¬ 1099511627776<a.natAbs * b.natAbs:=fun h=>hg (HC.out.2 (by rw [Nat.mul_comm]; exact h))
   have HV:Hid (capA (.ok (a * b))=.ok (a * b)):=Lib.hid (by rw [capA_mul,HAB.out,if_neg hle])
   have wm:IntKind.i64.wrap (a * b)=a * b:=by rw [IntKind.wrap_i64]; have:=HAB.out; omega
   clear x0 hxa hyb ha hb h1 h2 hg hqb hle hn0 hx hy
   go_enter Tryz.func162,Tryz.ntmps162
   go_wp2_with fail
   go_ret2
   exact ⟨by rw [HV.out]; rfl,rfl⟩
theorem rproduct_any (a b:Int) (ha:Sm a) (hb:Sm b) (w:World):Calls Tryz.prog 162 #[.int .i64 a,.int .i64 b] w (RetP (ansV (capA (.ok (a * b)))) w):=by
 by_cases h1:a<0
 ·by_cases h2:b<0
  ·exact rprod_nn a b ha hb h1 h2 w
  ·exact rprod_np a b ha hb h1 (by omega) w
 ·by_cases h2:b<0
  ·exact rprod_pn a b ha hb (by omega) h2 w
  ·exact rprod_pp a b ha hb (by omega) (by omega) w
/-- What Operate gives: the operator's value, if it is within bounds. -/
theorem op_five (a b:Int):capA (opV 5 a b)=capA (.ok (a * b)):=by
 unfold opV
 rw [if_neg (by omega),if_neg (by omega),if_pos rfl]
 by_cases h:b≠0∧1099511627776 / b.natAbs<(a.natAbs:Int)
 ·rw [if_pos h,capA_mul,if_pos (mul_out.1 h)]; rfl
 ·rw [if_neg h]
set_option maxHeartbeats 3200000 in
theorem rop5 (a b:Int) (ha:Sm a) (hb:Sm b) (w:World):Calls Tryz.prog 141 #[.int .i64 5,.int .i64 a,.int .i64 b] w (RetP (ansV (capA (opV 5 a b))) w):=by
 have HP:=Lib.hid (rproduct_any a b ha hb w)
 rw [op_five]
 unfold RetP at HP
 unfold RetP
 obtain ⟨x,f,hx⟩:∃ (x:Int) (f:Nat),ansV (capA (.ok (a * b)))=.tuple #[.int .i64 x,.int .i64 (f:Nat)]:=⟨_,_,rfl⟩
 rw [hx] at HP ⊢
 clear hx ha hb
 go_enter Tryz.func141,Tryz.ntmps141
 go_wp2_with (go_at_call 162; refine HP.out.mono ?_; rintro e W ⟨rfl,hw5⟩; obtain rfl:w=W:=hw5.symm)
 go_ret2
 exact ⟨rfl,rfl⟩
set_option maxHeartbeats 3200000 in
theorem rop3 (a b:Int) (ha:Sm a) (hb:Sm b) (w:World):Calls Tryz.prog 141 #[.int .i64 3,.int .i64 a,.int .i64 b] w (RetP (ansV (capA (.ok (a+b)))) w):=by
 unfold RetP ansV
 unfold Sm at ha hb
 have HV:Hid (capA (.ok (a+b))=if 1099511627776<(a+b).natAbs then .er 14 else .ok (a+b)):=Lib.hid (by simp only [capA])
 have wr:IntKind.i64.wrap (a+b)=a+b:=by rw [IntKind.wrap_i64]; omega
 generalize hn:a+b=n at HV wr
 by_cases c1:n < -1099511627776
 ·have q1:decide (n < -1099511627776)=true:=decide_eq_true c1
  replace HV:=Lib.hid (HV.out.trans (if_pos (by omega)))
  clear c1 ha hb
  go_enter Tryz.func141,Tryz.ntmps141
  go_wp2_with fail
  go_ret2
  exact ⟨by rw [HV.out]; rfl,rfl⟩
 by_cases c2:1099511627776<n
 ·have q1:decide (n < -1099511627776)=false:=decide_eq_false c1
  have q2:decide (1099511627776<n)=true:=decide_eq_true c2
  have q3:decide (n > 1099511627776)=true:=decide_eq_true c2
  replace HV:=Lib.hid (HV.out.trans (if_pos (by omega)))
  clear c1 c2 ha hb
  go_enter Tryz.func141,Tryz.ntmps141
  go_wp2_with fail
  go_ret2
  exact ⟨by rw [HV.out]; rfl,rfl⟩
 ·have q1:decide (n < -1099511627776)=false:=decide_eq_false c1
  have q2:decide (1099511627776<n)=false:=decide_eq_false c2
  have q3:decide (n > 1099511627776)=false:=decide_eq_false c2
  replace HV:=Lib.hid (HV.out.trans (if_neg (by omega)))
  clear c1 c2 ha hb
  go_enter Tryz.func141,Tryz.ntmps141
  go_wp2_with fail
  go_ret2
  exact ⟨by rw [HV.out]; rfl,rfl⟩
set_option maxHeartbeats 3200000 in
theorem rop4 (a b:Int) (ha:Sm a) (hb:Sm b) (w:World):Calls Tryz.prog 141 #[.int .i64 4,.int .i64 a,.int .i64 b] w (RetP (ansV (capA (.ok (a - b)))) w):=by
 unfold RetP ansV
 unfold Sm at ha hb
 have HV:Hid (capA (.ok (a - b))=if 1099511627776<(a - b).natAbs then .er 14 else .ok (a - b)):=Lib.hid (by simp only [capA])
 have wr:IntKind.i64.wrap (a - b)=a - b:=by rw [IntKind.wrap_i64]; omega
 generalize hn:a - b=n at HV wr
 by_cases c1:n < -1099511627776
 ·have q1:decide (n < -1099511627776)=true:=decide_eq_true c1
  replace HV:=Lib.hid (HV.out.trans (if_pos (by omega)))
  clear c1 ha hb
  go_enter Tryz.func141,Tryz.ntmps141
  go_wp2_with fail
  go_ret2
  exact ⟨by rw [HV.out]; rfl,rfl⟩
 by_cases c2:1099511627776<n
 ·have q1:decide (n < -1099511627776)=false:=decide_eq_false c1
  have q2:decide (1099511627776<n)=true:=decide_eq_true c2
  have q3:decide (n > 1099511627776)=true:=decide_eq_true c2
  replace HV:=Lib.hid (HV.out.trans (if_pos (by omega)))
  clear c1 c2 ha hb
  go_enter Tryz.func141,Tryz.ntmps141
  go_wp2_with fail
  go_ret2
  exact ⟨by rw [HV.out]; rfl,rfl⟩
 ·have q1:decide (n < -1099511627776)=false:=decide_eq_false c1
  have q2:decide (1099511627776<n)=false:=decide_eq_false c2
  have q3:decide (n > 1099511627776)=false:=decide_eq_false c2
  replace HV:=Lib.hid (HV.out.trans (if_neg (by omega)))
  clear c1 c2 ha hb
  go_enter Tryz.func141,Tryz.ntmps141
  go_wp2_with fail
  go_ret2
  exact ⟨by rw [HV.out]; rfl,rfl⟩
set_option maxHeartbeats 3200000 in
theorem rop6 (a b:Int) (ha:Sm a) (_hb:Sm b) (hz:b≠0) (w:World):Calls Tryz.prog 141 #[.int .i64 6,.int .i64 a,.int .i64 b] w (RetP (ansV (capA (.ok (a.tdiv b)))) w):=by
 unfold RetP ansV
 unfold Sm at ha
 have e1:(b == 0)=false:=by simpa using hz
 have e2:decide (b=0)=false:=decide_eq_false hz
 have hmag:(a.tdiv b).natAbs≤a.natAbs:=(Int.natAbs_tdiv a b).symm ▸ Nat.div_le_self a.natAbs b.natAbs
 have HV:Hid (capA (.ok (a.tdiv b))=if 1099511627776<(a.tdiv b).natAbs then .er 14 else .ok (a.tdiv b)):=Lib.hid (by simp only [capA])
 have wr:IntKind.i64.wrap (a.tdiv b)=a.tdiv b:=by rw [IntKind.wrap_i64]; omega
 generalize hn:a.tdiv b=n at HV wr hmag
 by_cases c1:n < -1099511627776
 ·have q1:decide (n < -1099511627776)=true:=decide_eq_true c1
  replace HV:=Lib.hid (HV.out.trans (if_pos (by omega)))
  clear c1 ha
  go_enter Tryz.func141,Tryz.ntmps141
  go_wp2_with fail
  go_ret2
  exact ⟨by rw [HV.out]; rfl,rfl⟩
 by_cases c2:1099511627776<n
 ·have q1:decide (n < -1099511627776)=false:=decide_eq_false c1
  have q2:decide (1099511627776<n)=true:=decide_eq_true c2
  have q3:decide (n > 1099511627776)=true:=decide_eq_true c2
  replace HV:=Lib.hid (HV.out.trans (if_pos (by omega)))
  clear c1 c2 ha
  go_enter Tryz.func141,Tryz.ntmps141
  go_wp2_with fail
  go_ret2
  exact ⟨by rw [HV.out]; rfl,rfl⟩
 ·have q1:decide (n < -1099511627776)=false:=decide_eq_false c1
  have q2:decide (1099511627776<n)=false:=decide_eq_false c2
  have q3:decide (n > 1099511627776)=false:=decide_eq_false c2
  replace HV:=Lib.hid (HV.out.trans (if_neg (by omega)))
  clear c1 c2 ha
  go_enter Tryz.func141,Tryz.ntmps141
  go_wp2_with fail
  go_ret2
  exact ⟨by rw [HV.out]; rfl,rfl⟩
set_option maxHeartbeats 3200000 in
theorem rop7 (a b:Int) (ha:Sm a) (_hb:Sm b) (hz:b≠0) (w:World):Calls Tryz.prog 141 #[.int .i64 7,.int .i64 a,.int .i64 b] w (RetP (ansV (capA (.ok (a.tmod b)))) w):=by
 unfold RetP ansV
 unfold Sm at ha
 have e1:(b == 0)=false:=by simpa using hz
 have e2:decide (b=0)=false:=decide_eq_false hz
 have hmag:(a.tmod b).natAbs≤a.natAbs:=(Int.natAbs_tmod a b).symm ▸ Nat.mod_le a.natAbs b.natAbs
 have HV:Hid (capA (.ok (a.tmod b))=if 1099511627776<(a.tmod b).natAbs then .er 14 else .ok (a.tmod b)):=Lib.hid (by simp only [capA])
 have wr:IntKind.i64.wrap (a.tmod b)=a.tmod b:=by rw [IntKind.wrap_i64]; omega
 generalize hn:a.tmod b=n at HV wr hmag
 by_cases c1:n < -1099511627776
 ·have q1:decide (n < -1099511627776)=true:=decide_eq_true c1
  replace HV:=Lib.hid (HV.out.trans (if_pos (by omega)))
  clear c1 ha
  go_enter Tryz.func141,Tryz.ntmps141
  go_wp2_with fail
  go_ret2
  exact ⟨by rw [HV.out]; rfl,rfl⟩
 by_cases c2:1099511627776<n
 ·have q1:decide (n < -1099511627776)=false:=decide_eq_false c1
  have q2:decide (1099511627776<n)=true:=decide_eq_true c2
  have q3:decide (n > 1099511627776)=true:=decide_eq_true c2
  replace HV:=Lib.hid (HV.out.trans (if_pos (by omega)))
  clear c1 c2 ha
  go_enter Tryz.func141,Tryz.ntmps141
  go_wp2_with fail
  go_ret2
  exact ⟨by rw [HV.out]; rfl,rfl⟩
 ·have q1:decide (n < -1099511627776)=false:=decide_eq_false c1
  have q2:decide (1099511627776<n)=false:=decide_eq_false c2
  have q3:decide (n > 1099511627776)=false:=decide_eq_false c2
  replace HV:=Lib.hid (HV.out.trans (if_neg (by omega)))
  clear c1 c2 ha
  go_enter Tryz.func141,Tryz.ntmps141
  go_wp2_with fail
  go_ret2
  exact ⟨by rw [HV.out]; rfl,rfl⟩
set_option maxHeartbeats 3200000 in
theorem rop6z (a:Int) (w:World):Calls Tryz.prog 141 #[.int .i64 6,.int .i64 a,.int .i64 0] w (RetP (ansV (.er 24)) w):=by
 unfold RetP ansV
 go_enter Tryz.func141,Tryz.ntmps141
 go_wp2_with fail
 go_ret2
 exact ⟨rfl,rfl⟩
set_option maxHeartbeats 3200000 in
theorem rop7z (a:Int) (w:World):Calls Tryz.prog 141 #[.int .i64 7,.int .i64 a,.int .i64 0] w (RetP (ansV (.er 24)) w):=by
 unfold RetP ansV
 go_enter Tryz.func141,Tryz.ntmps141
 go_wp2_with fail
 go_ret2
 exact ⟨rfl,rfl⟩
set_option maxHeartbeats 3200000 in
theorem rop8t (a b:Int) (h:a=b) (w:World):Calls Tryz.prog 141 #[.int .i64 8,.int .i64 a,.int .i64 b] w (RetP (ansV (.ok 1)) w):=by
 have HN:=Lib.hid (rnumber_any true w)
 have f1:(a == b)=true:=by simpa using h
 unfold RetP at HN
 unfold RetP ansV
 go_enter Tryz.func141,Tryz.ntmps141
 go_wp2_with (go_at_call 163; refine HN.out.mono ?_; rintro e W ⟨rfl,hw5⟩; obtain rfl:w=W:=hw5.symm)
 go_ret2
 exact ⟨rfl,rfl⟩
set_option maxHeartbeats 3200000 in
theorem rop8f (a b:Int) (h:¬ (a=b)) (w:World):Calls Tryz.prog 141 #[.int .i64 8,.int .i64 a,.int .i64 b] w (RetP (ansV (.ok 0)) w):=by
 have HN:=Lib.hid (rnumber_any false w)
 have f1:(a == b)=false:=by simpa using h
 unfold RetP at HN
 unfold RetP ansV
 go_enter Tryz.func141,Tryz.ntmps141
 go_wp2_with (go_at_call 163; refine HN.out.mono ?_; rintro e W ⟨rfl,hw5⟩; obtain rfl:w=W:=hw5.symm)
 go_ret2
 exact ⟨rfl,rfl⟩
set_option maxHeartbeats 3200000 in
theorem rop9t (a b:Int) (h:a≠b) (w:World):Calls Tryz.prog 141 #[.int .i64 9,.int .i64 a,.int .i64 b] w (RetP (ansV (.ok 1)) w):=by
 have HN:=Lib.hid (rnumber_any true w)
 have f1:(a != b)=true:=by simpa using h
 have f2:(a == b)=false:=by simpa using h
 unfold RetP at HN
 unfold RetP ansV
 go_enter Tryz.func141,Tryz.ntmps141
 go_wp2_with (go_at_call 163; refine HN.out.mono ?_; rintro e W ⟨rfl,hw5⟩; obtain rfl:w=W:=hw5.symm)
 go_ret2
 exact ⟨rfl,rfl⟩
set_option maxHeartbeats 3200000 in
theorem rop9f (a b:Int) (h:¬ (a≠b)) (w:World):Calls Tryz.prog 141 #[.int .i64 9,.int .i64 a,.int .i64 b] w (RetP (ansV (.ok 0)) w):=by
 have HN:=Lib.hid (rnumber_any false w)
 have f1:(a != b)=false:=by simpa using h
 have f2:(a == b)=true:=by simpa using h
 unfold RetP at HN
 unfold RetP ansV
 go_enter Tryz.func141,Tryz.ntmps141
 go_wp2_with (go_at_call 163; refine HN.out.mono ?_; rintro e W ⟨rfl,hw5⟩; obtain rfl:w=W:=hw5.symm)
 go_ret2
 exact ⟨rfl,rfl⟩
set_option maxHeartbeats 3200000 in
theorem rop10t (a b:Int) (h:a<b) (w:World):Calls Tryz.prog 141 #[.int .i64 10,.int .i64 a,.int .i64 b] w (RetP (ansV (.ok 1)) w):=by
 have HN:=Lib.hid (rnumber_any true w)
 have f1:decide (a<b)=true:=decide_eq_true (by omega)
 unfold RetP at HN
 unfold RetP ansV
 go_enter Tryz.func141,Tryz.ntmps141
 go_wp2_with (go_at_call 163; refine HN.out.mono ?_; rintro e W ⟨rfl,hw5⟩; obtain rfl:w=W:=hw5.symm)
 go_ret2
 exact ⟨rfl,rfl⟩
set_option maxHeartbeats 3200000 in
theorem rop10f (a b:Int) (h:¬ (a<b)) (w:World):Calls Tryz.prog 141 #[.int .i64 10,.int .i64 a,.int .i64 b] w (RetP (ansV (.ok 0)) w):=by
 have HN:=Lib.hid (rnumber_any false w)
 have f1:decide (a<b)=false:=decide_eq_false (by omega)
 unfold RetP at HN
 unfold RetP ansV
 go_enter Tryz.func141,Tryz.ntmps141
 go_wp2_with (go_at_call 163; refine HN.out.mono ?_; rintro e W ⟨rfl,hw5⟩; obtain rfl:w=W:=hw5.symm)
 go_ret2
 exact ⟨rfl,rfl⟩
set_option maxHeartbeats 3200000 in
theorem rop11t (a b:Int) (h:a≤b) (w:World):Calls Tryz.prog 141 #[.int .i64 11,.int .i64 a,.int .i64 b] w (RetP (ansV (.ok 1)) w):=by
 have HN:=Lib.hid (rnumber_any true w)
 have f1:decide (a≤b)=true:=decide_eq_true (by omega)
 unfold RetP at HN
 unfold RetP ansV
 go_enter Tryz.func141,Tryz.ntmps141
 go_wp2_with (go_at_call 163; refine HN.out.mono ?_; rintro e W ⟨rfl,hw5⟩; obtain rfl:w=W:=hw5.symm)
 go_ret2
 exact ⟨rfl,rfl⟩
set_option maxHeartbeats 3200000 in
theorem rop11f (a b:Int) (h:¬ (a≤b)) (w:World):Calls Tryz.prog 141 #[.int .i64 11,.int .i64 a,.int .i64 b] w (RetP (ansV (.ok 0)) w):=by
 have HN:=Lib.hid (rnumber_any false w)
 have f1:decide (a≤b)=false:=decide_eq_false (by omega)
 unfold RetP at HN
 unfold RetP ansV
 go_enter Tryz.func141,Tryz.ntmps141
 go_wp2_with (go_at_call 163; refine HN.out.mono ?_; rintro e W ⟨rfl,hw5⟩; obtain rfl:w=W:=hw5.symm)
 go_ret2
 exact ⟨rfl,rfl⟩
set_option maxHeartbeats 3200000 in
theorem rop12t (a b:Int) (h:b<a) (w:World):Calls Tryz.prog 141 #[.int .i64 12,.int .i64 a,.int .i64 b] w (RetP (ansV (.ok 1)) w):=by
 have HN:=Lib.hid (rnumber_any true w)
 have f1:decide (b<a)=true:=decide_eq_true (by omega)
 have f2:decide (a > b)=true:=decide_eq_true (by omega)
 unfold RetP at HN
 unfold RetP ansV
 go_enter Tryz.func141,Tryz.ntmps141
 go_wp2_with (go_at_call 163; refine HN.out.mono ?_; rintro e W ⟨rfl,hw5⟩; obtain rfl:w=W:=hw5.symm)
 go_ret2
 exact ⟨rfl,rfl⟩
set_option maxHeartbeats 3200000 in
theorem rop12f (a b:Int) (h:¬ (b<a)) (w:World):Calls Tryz.prog 141 #[.int .i64 12,.int .i64 a,.int .i64 b] w (RetP (ansV (.ok 0)) w):=by
 have HN:=Lib.hid (rnumber_any false w)
 have f1:decide (b<a)=false:=decide_eq_false (by omega)
 have f2:decide (a > b)=false:=decide_eq_false (by omega)
 unfold RetP at HN
 unfold RetP ansV
 go_enter Tryz.func141,Tryz.ntmps141
 go_wp2_with (go_at_call 163; refine HN.out.mono ?_; rintro e W ⟨rfl,hw5⟩; obtain rfl:w=W:=hw5.symm)
 go_ret2
 exact ⟨rfl,rfl⟩
set_option maxHeartbeats 3200000 in
theorem rop13t (a b:Int) (h:b≤a) (w:World):Calls Tryz.prog 141 #[.int .i64 13,.int .i64 a,.int .i64 b] w (RetP (ansV (.ok 1)) w):=by
 have HN:=Lib.hid (rnumber_any true w)
 have f1:decide (b≤a)=true:=decide_eq_true (by omega)
 have f2:decide (a ≥ b)=true:=decide_eq_true (by omega)
 unfold RetP at HN
 unfold RetP ansV
 go_enter Tryz.func141,Tryz.ntmps141
 go_wp2_with (go_at_call 163; refine HN.out.mono ?_; rintro e W ⟨rfl,hw5⟩; obtain rfl:w=W:=hw5.symm)
 go_ret2
 exact ⟨rfl,rfl⟩
set_option maxHeartbeats 3200000 in
theorem rop13f (a b:Int) (h:¬ (b≤a)) (w:World):Calls Tryz.prog 141 #[.int .i64 13,.int .i64 a,.int .i64 b] w (RetP (ansV (.ok 0)) w):=by
 have HN:=Lib.hid (rnumber_any false w)
 have f1:decide (b≤a)=false:=decide_eq_false (by omega)
 have f2:decide (a ≥ b)=false:=decide_eq_false (by omega)
 unfold RetP at HN
 unfold RetP ansV
 go_enter Tryz.func141,Tryz.ntmps141
 go_wp2_with (go_at_call 163; refine HN.out.mono ?_; rintro e W ⟨rfl,hw5⟩; obtain rfl:w=W:=hw5.symm)
 go_ret2
 exact ⟨rfl,rfl⟩
set_option maxHeartbeats 3200000 in
theorem rop14_00 (a b:Int) (h1:a=0) (h2:b=0) (w:World):Calls Tryz.prog 141 #[.int .i64 14,.int .i64 a,.int .i64 b] w (RetP (ansV (.ok 0)) w):=by
 have HN:=Lib.hid (rnumber_any false w)
 have f1:(a != 0)=false:=by simpa using h1
 have f2:(b != 0)=false:=by simpa using h2
 unfold RetP at HN
 unfold RetP ansV
 go_enter Tryz.func141,Tryz.ntmps141
 go_wp2_with (go_at_call 163; refine HN.out.mono ?_; rintro e W ⟨rfl,hw5⟩; obtain rfl:w=W:=hw5.symm)
 go_ret2
 exact ⟨rfl,rfl⟩
set_option maxHeartbeats 3200000 in
theorem rop14_01 (a b:Int) (h1:a=0) (h2:b≠0) (w:World):Calls Tryz.prog 141 #[.int .i64 14,.int .i64 a,.int .i64 b] w (RetP (ansV (.ok 0)) w):=by
 have HN:=Lib.hid (rnumber_any false w)
 have f1:(a != 0)=false:=by simpa using h1
 have f2:(b != 0)=true:=by simpa using h2
 unfold RetP at HN
 unfold RetP ansV
 go_enter Tryz.func141,Tryz.ntmps141
 go_wp2_with (go_at_call 163; refine HN.out.mono ?_; rintro e W ⟨rfl,hw5⟩; obtain rfl:w=W:=hw5.symm)
 go_ret2
 exact ⟨rfl,rfl⟩
set_option maxHeartbeats 3200000 in
theorem rop14_10 (a b:Int) (h1:a≠0) (h2:b=0) (w:World):Calls Tryz.prog 141 #[.int .i64 14,.int .i64 a,.int .i64 b] w (RetP (ansV (.ok 0)) w):=by
 have HN:=Lib.hid (rnumber_any false w)
 have f1:(a != 0)=true:=by simpa using h1
 have f2:(b != 0)=false:=by simpa using h2
 unfold RetP at HN
 unfold RetP ansV
 go_enter Tryz.func141,Tryz.ntmps141
 go_wp2_with (go_at_call 163; refine HN.out.mono ?_; rintro e W ⟨rfl,hw5⟩; obtain rfl:w=W:=hw5.symm)
 go_ret2
 exact ⟨rfl,rfl⟩
set_option maxHeartbeats 3200000 in
theorem rop14_11 (a b:Int) (h1:a≠0) (h2:b≠0) (w:World):Calls Tryz.prog 141 #[.int .i64 14,.int .i64 a,.int .i64 b] w (RetP (ansV (.ok 1)) w):=by
 have HN:=Lib.hid (rnumber_any true w)
 have f1:(a != 0)=true:=by simpa using h1
 have f2:(b != 0)=true:=by simpa using h2
 unfold RetP at HN
 unfold RetP ansV
 go_enter Tryz.func141,Tryz.ntmps141
 go_wp2_with (go_at_call 163; refine HN.out.mono ?_; rintro e W ⟨rfl,hw5⟩; obtain rfl:w=W:=hw5.symm)
 go_ret2
 exact ⟨rfl,rfl⟩
set_option maxHeartbeats 3200000 in
theorem rop15_00 (a b:Int) (h1:a=0) (h2:b=0) (w:World):Calls Tryz.prog 141 #[.int .i64 15,.int .i64 a,.int .i64 b] w (RetP (ansV (.ok 0)) w):=by
 have HN:=Lib.hid (rnumber_any false w)
 have f1:(a != 0)=false:=by simpa using h1
 have f2:(b != 0)=false:=by simpa using h2
 unfold RetP at HN
 unfold RetP ansV
 go_enter Tryz.func141,Tryz.ntmps141
 go_wp2_with (go_at_call 163; refine HN.out.mono ?_; rintro e W ⟨rfl,hw5⟩; obtain rfl:w=W:=hw5.symm)
 go_ret2
 exact ⟨rfl,rfl⟩
set_option maxHeartbeats 3200000 in
theorem rop15_01 (a b:Int) (h1:a=0) (h2:b≠0) (w:World):Calls Tryz.prog 141 #[.int .i64 15,.int .i64 a,.int .i64 b] w (RetP (ansV (.ok 1)) w):=by
 have HN:=Lib.hid (rnumber_any true w)
 have f1:(a != 0)=false:=by simpa using h1
 have f2:(b != 0)=true:=by simpa using h2
 unfold RetP at HN
 unfold RetP ansV
 go_enter Tryz.func141,Tryz.ntmps141
 go_wp2_with (go_at_call 163; refine HN.out.mono ?_; rintro e W ⟨rfl,hw5⟩; obtain rfl:w=W:=hw5.symm)
 go_ret2
 exact ⟨rfl,rfl⟩
set_option maxHeartbeats 3200000 in
theorem rop15_10 (a b:Int) (h1:a≠0) (h2:b=0) (w:World):Calls Tryz.prog 141 #[.int .i64 15,.int .i64 a,.int .i64 b] w (RetP (ansV (.ok 1)) w):=by
 have HN:=Lib.hid (rnumber_any true w)
 have f1:(a != 0)=true:=by simpa using h1
 have f2:(b != 0)=false:=by simpa using h2
 unfold RetP at HN
 unfold RetP ansV
 go_enter Tryz.func141,Tryz.ntmps141
 go_wp2_with (go_at_call 163; refine HN.out.mono ?_; rintro e W ⟨rfl,hw5⟩; obtain rfl:w=W:=hw5.symm)
 go_ret2
 exact ⟨rfl,rfl⟩
set_option maxHeartbeats 3200000 in
theorem rop15_11 (a b:Int) (h1:a≠0) (h2:b≠0) (w:World):Calls Tryz.prog 141 #[.int .i64 15,.int .i64 a,.int .i64 b] w (RetP (ansV (.ok 1)) w):=by
 have HN:=Lib.hid (rnumber_any true w)
 have f1:(a != 0)=true:=by simpa using h1
 have f2:(b != 0)=true:=by simpa using h2
 unfold RetP at HN
 unfold RetP ansV
 go_enter Tryz.func141,Tryz.ntmps141
 go_wp2_with (go_at_call 163; refine HN.out.mono ?_; rintro e W ⟨rfl,hw5⟩; obtain rfl:w=W:=hw5.symm)
 go_ret2
 exact ⟨rfl,rfl⟩
/-- Operate. -/
theorem rop_any (o a b:Int) (ho:3≤o∧o≤15) (ha:Sm a) (hb:Sm b) (w:World):Calls Tryz.prog 141 #[.int .i64 o,.int .i64 a,.int .i64 b] w (RetP (ansV (capA (opV o a b))) w):=by
 have hc:o=3∨o=4∨o=5∨o=6∨o=7∨o=8∨o=9∨o=10∨o=11∨o=12∨o=13∨o=14∨o=15:=by omega
 rcases hc with rfl | rfl | rfl | rfl | rfl | rfl | rfl | rfl | rfl | rfl | rfl | rfl | rfl
 ·exact rop3 a b ha hb w
 ·exact rop4 a b ha hb w
 ·exact rop5 a b ha hb w
 ·by_cases h:b=0
  ·subst h; exact rop6z a w
  ·rw [show opV 6 a b=.ok (a.tdiv b) from by simp [opV,h]]; exact rop6 a b ha hb h w
 ·by_cases h:b=0
  ·subst h; exact rop7z a w
  ·rw [show opV 7 a b=.ok (a.tmod b) from by simp [opV,h]]; exact rop7 a b ha hb h w
 ·by_cases h:a=b
  ·rw [show capA (opV 8 a b)=.ok 1 from by simp [opV,oneI,capA,h]]; exact rop8t a b h w
  ·rw [show capA (opV 8 a b)=.ok 0 from by simp [opV,oneI,capA,h]]; exact rop8f a b h w
 ·by_cases h:a≠b
  ·rw [show capA (opV 9 a b)=.ok 1 from by simp [opV,oneI,capA,h]]; exact rop9t a b h w
  ·rw [show capA (opV 9 a b)=.ok 0 from by simp [opV,oneI,capA,h]]; exact rop9f a b h w
 ·by_cases h:a<b
  ·rw [show capA (opV 10 a b)=.ok 1 from by simp [opV,oneI,capA,h]]; exact rop10t a b h w
  ·rw [show capA (opV 10 a b)=.ok 0 from by simp [opV,oneI,capA,h]]; exact rop10f a b h w
 ·by_cases h:a≤b
  ·rw [show capA (opV 11 a b)=.ok 1 from by simp [opV,oneI,capA,h]]; exact rop11t a b h w
  ·rw [show capA (opV 11 a b)=.ok 0 from by simp [opV,oneI,capA,h]]; exact rop11f a b h w
 ·by_cases h:b<a
  ·rw [show capA (opV 12 a b)=.ok 1 from by simp [opV,oneI,capA,h]]; exact rop12t a b h w
  ·rw [show capA (opV 12 a b)=.ok 0 from by simp [opV,oneI,capA,h]]; exact rop12f a b h w
 ·by_cases h:b≤a
  ·rw [show capA (opV 13 a b)=.ok 1 from by simp [opV,oneI,capA,h]]; exact rop13t a b h w
  ·rw [show capA (opV 13 a b)=.ok 0 from by simp [opV,oneI,capA,h]]; exact rop13f a b h w
 ·by_cases h1:a=0
  ·by_cases h2:b=0
   ·rw [show capA (opV 14 a b)=.ok 0 from by simp [opV,oneI,capA,h1,h2]]; exact rop14_00 a b h1 h2 w
   ·rw [show capA (opV 14 a b)=.ok 0 from by simp [opV,oneI,capA,h1,h2]]; exact rop14_01 a b h1 h2 w
  ·by_cases h2:b=0
   ·rw [show capA (opV 14 a b)=.ok 0 from by simp [opV,oneI,capA,h1,h2]]; exact rop14_10 a b h1 h2 w
   ·rw [show capA (opV 14 a b)=.ok 1 from by simp [opV,oneI,capA,h1,h2]]; exact rop14_11 a b h1 h2 w
 ·by_cases h1:a=0
  ·by_cases h2:b=0
   ·rw [show capA (opV 15 a b)=.ok 0 from by simp [opV,oneI,capA,h1,h2]]; exact rop15_00 a b h1 h2 w
   ·rw [show capA (opV 15 a b)=.ok 1 from by simp [opV,oneI,capA,h1,h2]]; exact rop15_01 a b h1 h2 w
  ·by_cases h2:b=0
   ·rw [show capA (opV 15 a b)=.ok 1 from by simp [opV,oneI,capA,h1,h2]]; exact rop15_10 a b h1 h2 w
   ·rw [show capA (opV 15 a b)=.ok 1 from by simp [opV,oneI,capA,h1,h2]]; exact rop15_11 a b h1 h2 w
end Go.Proofs.YtedpopbaipnamaaGreatDoor
