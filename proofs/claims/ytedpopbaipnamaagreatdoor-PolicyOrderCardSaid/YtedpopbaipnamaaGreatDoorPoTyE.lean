/- expr.Type, walked. Conditions: the expression and the bindings lie in memory, the bindings are valid (bound gives true). -/
import Derived.Test.YtedpopbaipnamaaGreatDoorPoPar
import Derived.Test.YtedpopbaipnamaaGreatDoorPoTyp
import Derived.Test.YtedpopbaipnamaaGreatDoorPoNam
namespace Go.Proofs.YtedpopbaipnamaaGreatDoor
open Go.RowKit
set_option maxRecDepth 100000 in
set_option maxHeartbeats 1600000 in
theorem type_any (bs:List Bd) (Ab:Option Addr) (cb Bb:Nat) (hbl:bs.length≤140737488355328) (e:Ex) (lo:Nat) (vs:List Value) (w:World) (hL:LiesE w lo vs e) (hlo:lo≤w.heap.size) (hR:RdB w Bb Ab bs) (hBb:Bb≤w.heap.size)
  (hbd:∀ W,Below w.heap.size w W→Calls Tryz.prog 59 #[.slice Ab bs.length cb] W (Ret (.bool true) W)) :
  Calls Tryz.prog 38 #[.agg vs.toArray,.slice Ab bs.length cb] w (Ret (ansV (typeE bs e)) w):=by
 obtain ⟨A,cap,rfl,bd,-⟩:=hL.arg
 have HCK:Hid (∀ W,Below w.heap.size w W→Calls Tryz.prog 55 #[.agg (exC e.kind e.op e.name e.val A e.args.length cap).toArray] W (Ret (.int .i64 (chkE e:Nat)) W)):=Lib.hid (fun W hW=>exCheck_any (hL.below' hW hlo) (Nat.le_trans hlo hW.size))
 have HBD:=Lib.hid hbd
 have HTY:Hid (chkE e=0→∀ W,Below w.heap.size w W→Calls Tryz.prog 60 #[.agg (exC e.kind e.op e.name e.val A e.args.length cap).toArray,.slice Ab bs.length cb] W (Ret (ansV (typE bs e)) W)):=Lib.hid (fun h W hW=>typed_any bs Ab cb Bb hbl e lo _ W (good_of e h).1 (hL.below' hW hlo) (Nat.le_trans hlo hW.size) (Rd.below' hR hW hBb) (Nat.le_trans hBb hW.size))
 unfold exC Ret at HCK
 unfold exC ansV Ret at HTY
 unfold Ret at HBD
 clear hL hR hbd bd
 unfold exC ansV Ret
 by_cases hc:chkE e=0
 ·have HV:Hid (typeE bs e=typE bs e):=Lib.hid (by unfold typeE; rw [if_pos hc])
  rw [hc] at HCK
  replace HTY:=Lib.hid (HTY.out hc)
  clear hc
  have hO:=one_new w #[.int .i64 e.kind,.int .i64 e.op,.string e.name,.int .i64 e.val,.slice A e.args.length cap] 45
  go_enter Tryz.func38,Tryz.ntmps38
  go_upto_region 1 with fail
  generalize w.alloc _=w1 at hO ⊢
  obtain ⟨x0,x1,x2,x3,x4⟩:=bx5 hO.fst
  go_wp2_with fail
  refine (HCK.out _ hO.below).mono ?_
  rintro e5 w5 ⟨rfl,hb5⟩
  clear x0 x1 x2 x3 x4
  replace hO:=hO.next hb5
  clear hb5
  go_wp2_with fail
  refine (HBD.out _ hO.below).mono ?_
  rintro e6 w6 ⟨rfl,hb6⟩
  replace hO:=hO.next hb6
  clear hb6
  obtain ⟨x0,x1,x2,x3,x4⟩:=bx5 hO.fst
  go_wp2_with fail
  refine (HTY.out _ hO.below).mono ?_
  rintro e7 w7 ⟨rfl,hb7⟩
  replace hb7:=hO.below.trans (hb7.mono hO.below.size)
  clear x0 x1 x2 x3 x4 hO
  go_wp2_with fail
  go_ret2
  exact ⟨by rw [HV.out]; rfl,hb7⟩
 ·have HV:Hid (typeE bs e=.er (chkE e)):=Lib.hid (by unfold typeE; rw [if_neg hc])
  generalize chkE e=f at HCK HV hc
  have e1:((f:Int) != 0)=true:=by simpa using hc
  have e2:(f != 0)=true:=by simpa using hc
  clear hc HTY HBD
  go_enter Tryz.func38,Tryz.ntmps38
  go_wp2_with (go_at_call 55; refine (HCK.out _ (below_alloc _ _)).mono ?_; rintro e5 w5 ⟨rfl,hb5⟩; replace hb5:=(below_alloc _ _).trans (hb5.mono (below_alloc w _).size))
  go_ret2
  exact ⟨by rw [HV.out]; rfl,hb5⟩
end Go.Proofs.YtedpopbaipnamaaGreatDoor

namespace Go.Proofs.YtedpopbaipnamaaGreatDoor
open Go.RowKit
/-- An operand. -/
def Sm (a:Int):Prop:=-1099511627776≤a∧a≤1099511627776
/-- A value comes back and the world does not change. -/
def RetP (v:Value) (w:World):Ending→World→Prop:=fun e W=>e=.returned v∧W=w
set_option maxRecDepth 100000
theorem abs_any (n:Int) (hn:n.natAbs≤4611686018427387904) (w:World):Calls Tryz.prog 96 #[.int .i64 n] w (RetP (.int .i64 (n.natAbs:Int)) w):=by
 unfold RetP
 have hw:IntKind.i64.wrap (-n) = -n:=by rw [IntKind.wrap_i64]; omega
 go_enter Tryz.func96,Tryz.ntmps96
 go_wp2_with fail
 ·have e3:((n.natAbs:Nat):Int) = -n:=by omega
  rw [e3]
  go_ret
  exact ⟨rfl,rfl⟩
 ·have e3:((n.natAbs:Nat):Int)=n:=by omega
  rw [e3]
  go_ret
  exact ⟨rfl,rfl⟩
theorem add_any (a b:Int) (ha:Sm a) (hb:Sm b) (w:World):Calls Tryz.prog 111 #[.int .i64 a,.int .i64 b] w (RetP (.int .i64 (a+b)) w):=by
 unfold RetP
 unfold Sm at ha hb
 have hw:IntKind.i64.wrap (a+b)=a+b:=by rw [IntKind.wrap_i64]; omega
 go_enter Tryz.func111,Tryz.ntmps111
 go_wp2_with fail
 go_ret
 exact ⟨rfl,rfl⟩
theorem sub_any (a b:Int) (ha:Sm a) (hb:Sm b) (w:World):Calls Tryz.prog 112 #[.int .i64 a,.int .i64 b] w (RetP (.int .i64 (a - b)) w):=by
 unfold RetP
 unfold Sm at ha hb
 have hw:IntKind.i64.wrap (a - b)=a - b:=by rw [IntKind.wrap_i64]; omega
 go_enter Tryz.func112,Tryz.ntmps112
 go_wp2_with fail
 go_ret
 exact ⟨rfl,rfl⟩
theorem eq_any (a b:Int) (w:World):Calls Tryz.prog 118 #[.int .i64 a,.int .i64 b] w (RetP (.bool (decide (a=b))) w):=by
 unfold RetP
 go_enter Tryz.func118,Tryz.ntmps118
 go_wp2_with fail
 go_ret
 exact ⟨rfl,rfl⟩
theorem ne_any (a b:Int) (w:World):Calls Tryz.prog 119 #[.int .i64 a,.int .i64 b] w (RetP (.bool (!decide (a=b))) w):=by
 unfold RetP
 go_enter Tryz.func119,Tryz.ntmps119
 go_wp2_with fail
 go_ret
 exact ⟨rfl,rfl⟩
theorem lt_any (a b:Int) (w:World):Calls Tryz.prog 120 #[.int .i64 a,.int .i64 b] w (RetP (.bool (decide (a<b))) w):=by
 unfold RetP
 go_enter Tryz.func120,Tryz.ntmps120
 go_wp2_with fail
 go_ret
 exact ⟨rfl,rfl⟩
theorem le_any (a b:Int) (w:World):Calls Tryz.prog 121 #[.int .i64 a,.int .i64 b] w (RetP (.bool (decide (a≤b))) w):=by
 unfold RetP
 go_enter Tryz.func121,Tryz.ntmps121
 go_wp2_with fail
 go_ret
 exact ⟨rfl,rfl⟩
theorem gt_any (a b:Int) (w:World):Calls Tryz.prog 122 #[.int .i64 a,.int .i64 b] w (RetP (.bool (decide (b<a))) w):=by
 unfold RetP
 go_enter Tryz.func122,Tryz.ntmps122
 go_wp2_with fail
 go_ret
 exact ⟨rfl,rfl⟩
theorem ge_any (a b:Int) (w:World):Calls Tryz.prog 123 #[.int .i64 a,.int .i64 b] w (RetP (.bool (decide (b≤a))) w):=by
 unfold RetP
 go_enter Tryz.func123,Tryz.ntmps123
 go_wp2_with fail
 go_ret
 exact ⟨rfl,rfl⟩
theorem and_any (a b:Int) (w:World):Calls Tryz.prog 124 #[.int .i64 a,.int .i64 b] w (RetP (.bool (a != 0 && b != 0)) w):=by
 unfold RetP
 by_cases h:a=0
 ·have e1:(a != 0)=false:=by simpa using h
  rw [e1]
  clear h
  go_enter Tryz.func124,Tryz.ntmps124
  go_wp2_with fail
  go_ret
  exact ⟨rfl,rfl⟩
 ·have e1:(a != 0)=true:=by simpa using h
  rw [e1]
  clear h
  go_enter Tryz.func124,Tryz.ntmps124
  go_wp2_with fail
  go_ret
  exact ⟨rfl,rfl⟩
theorem or_any (a b:Int) (w:World):Calls Tryz.prog 125 #[.int .i64 a,.int .i64 b] w (RetP (.bool (a != 0 || b != 0)) w):=by
 unfold RetP
 by_cases h:a=0
 ·have e1:(a != 0)=false:=by simpa using h
  rw [e1]
  clear h
  go_enter Tryz.func125,Tryz.ntmps125
  go_wp2_with fail
  go_ret
  exact ⟨rfl,rfl⟩
 ·have e1:(a != 0)=true:=by simpa using h
  rw [e1]
  clear h
  go_enter Tryz.func125,Tryz.ntmps125
  go_wp2_with fail
  go_ret
  exact ⟨rfl,rfl⟩
theorem number_of (F:Nat) (cc:Array Value) (a b r:Int) (g:Nat) (w:World) (hc:w.cell? ⟨g,0,none⟩=some (.func (.func F) #[] cc)) (eg:∀ (args:Array Value) (W:World),(callFunc F args).run Tryz.prog W=.ok (.enter F args) W) (hF:∀ W:World,Below w.heap.size w W→Calls Tryz.prog F (#[.int .i64 a,.int .i64 b]++cc) W (Ret (.int .i64 r) W)):Calls Tryz.prog 146 #[.int .i64 a,.int .i64 b,.pointer (some ⟨g,0,none⟩)] w (Ret (.tuple #[.int .i64 r,.int .i64 0]) w):=by
 unfold Ret
 have HF:=Lib.hid (hF w (Below.refl _ _))
 unfold Ret at HF
 clear hF
 go_enter Tryz.func146,Tryz.ntmps146
 go_wp2_with (refine HF.out.mono ?_; rintro e w5 ⟨rfl,hb5⟩)
 go_ret2
 exact ⟨rfl,hb5⟩
theorem truth_of (F:Nat) (cc:Array Value) (a b:Int) (r:Bool) (g:Nat) (w:World) (hc:w.cell? ⟨g,0,none⟩=some (.func (.func F) #[] cc)) (eg:∀ (args:Array Value) (W:World),(callFunc F args).run Tryz.prog W=.ok (.enter F args) W) (hF:∀ W:World,Below w.heap.size w W→Calls Tryz.prog F (#[.int .i64 a,.int .i64 b]++cc) W (Ret (.bool r) W)):Calls Tryz.prog 148 #[.int .i64 a,.int .i64 b,.pointer (some ⟨g,0,none⟩)] w (Ret (.int .i64 (oneI r)) w):=by
 unfold Ret
 have HF:=Lib.hid (hF w (Below.refl _ _))
 unfold Ret at HF
 clear hF
 cases r with
 | true=>
  go_enter Tryz.func148,Tryz.ntmps148
  go_wp2_with (refine HF.out.mono ?_; rintro e w5 ⟨rfl,hb5⟩)
  go_ret
  exact ⟨rfl,hb5⟩
 | false=>
  go_enter Tryz.func148,Tryz.ntmps148
  go_wp2_with (refine HF.out.mono ?_; rintro e w5 ⟨rfl,hb5⟩)
  go_ret
  exact ⟨rfl,hb5⟩
theorem divide_no (a:Int) (g:Nat) (w:World):Calls Tryz.prog 147 #[.int .i64 a,.int .i64 0,.pointer (some ⟨g,0,none⟩)] w (Ret (.tuple #[.int .i64 0,.int .i64 24]) w):=by
 unfold Ret
 go_enter Tryz.func147,Tryz.ntmps147
 go_wp2_with fail
 go_ret2
 exact ⟨rfl,Below.refl _ _⟩
theorem divide_of (F:Nat) (cc:Array Value) (a b r:Int) (hb:b≠0) (g:Nat) (w:World) (hc:w.cell? ⟨g,0,none⟩=some (.func (.func F) #[] cc)) (eg:∀ (args:Array Value) (W:World),(callFunc F args).run Tryz.prog W=.ok (.enter F args) W) (hF:∀ W:World,Below w.heap.size w W→Calls Tryz.prog F (#[.int .i64 a,.int .i64 b]++cc) W (Ret (.int .i64 r) W)):Calls Tryz.prog 147 #[.int .i64 a,.int .i64 b,.pointer (some ⟨g,0,none⟩)] w (Ret (.tuple #[.int .i64 r,.int .i64 0]) w):=by
 unfold Ret
 have HF:=Lib.hid (hF w (Below.refl _ _))
 have e1:(b == 0)=false:=by simpa using hb
 have e2:decide (b=0)=false:=decide_eq_false hb
 unfold Ret at HF
 clear hF hb
 go_enter Tryz.func147,Tryz.ntmps147
 go_wp2_with (refine HF.out.mono ?_; rintro e w5 ⟨rfl,hb5⟩)
 go_ret2
 exact ⟨rfl,hb5⟩
theorem quo_any (a b:Int) (ha:Sm a) (hb:b≠0) (w:World):Calls Tryz.prog 115 #[.int .i64 a,.int .i64 b] w (RetP (.int .i64 (a.tdiv b)) w):=by
 unfold RetP
 unfold Sm at ha
 have h2:(a.tdiv b).natAbs≤a.natAbs:=(Int.natAbs_tdiv a b).symm ▸ Nat.div_le_self a.natAbs b.natAbs
 have hw:IntKind.i64.wrap (a.tdiv b)=a.tdiv b:=by rw [IntKind.wrap_i64]; omega
 have e1:(b == 0)=false:=by simpa using hb
 have e2:decide (b=0)=false:=decide_eq_false hb
 clear h2
 go_enter Tryz.func115,Tryz.ntmps115
 go_wp2_with fail
 go_ret
 exact ⟨rfl,rfl⟩
theorem rem_any (a b:Int) (ha:Sm a) (hb:b≠0) (w:World):Calls Tryz.prog 116 #[.int .i64 a,.int .i64 b] w (RetP (.int .i64 (a.tmod b)) w):=by
 unfold RetP
 unfold Sm at ha
 have h2:(a.tmod b).natAbs≤a.natAbs:=(Int.natAbs_tmod a b).symm ▸ Nat.mod_le a.natAbs b.natAbs
 have hw:IntKind.i64.wrap (a.tmod b)=a.tmod b:=by rw [IntKind.wrap_i64]; omega
 have e1:(b == 0)=false:=by simpa using hb
 have e2:decide (b=0)=false:=decide_eq_false hb
 clear h2
 go_enter Tryz.func116,Tryz.ntmps116
 go_wp2_with fail
 go_ret
 exact ⟨rfl,rfl⟩
theorem tdiv_nat (k m:Nat):Int.tdiv (k:Int) (m:Int)=((k / m:Nat):Int):=by simp
theorem times_any (a b:Int) (ha:Sm a) (hb:Sm b) (w:World):Calls Tryz.prog 113 #[.int .i64 a,.int .i64 b] w (Ret (.tuple #[.int .i64 (opV 5 a b).n,.int .i64 ((opV 5 a b).f:Nat)]) w):=by
 unfold Ret
 unfold Sm at ha hb
 have HA:Hid (∀ W,Calls Tryz.prog 96 #[.int .i64 a] W (RetP (.int .i64 (a.natAbs:Int)) W)):=Lib.hid (fun W=>abs_any a (by omega) W)
 have HB:Hid (∀ W,Calls Tryz.prog 96 #[.int .i64 b] W (RetP (.int .i64 (b.natAbs:Int)) W)):=Lib.hid (fun W=>abs_any b (by omega) W)
 unfold RetP at HA HB
 by_cases h0:b=0
 ·subst h0
  have HV:Hid (opV 5 a 0=.ok 0):=Lib.hid (by simp [opV])
  clear ha hb
  go_enter Tryz.func113,Tryz.ntmps113
  go_wp2_with fail
  go_ret2
  exact ⟨by rw [HV.out]; simp [Ans.n,Ans.f],Below.refl _ _⟩
 ·have e1:(b != 0)=true:=by simpa using h0
  have e2:((b.natAbs:Int) == 0)=false:=by simpa using h0
  have e3:decide ((b.natAbs:Int)=0)=false:=decide_eq_false (by omega)
  obtain ⟨q,hq⟩:∃ q:Nat,q=1099511627776 / b.natAbs:=⟨_,rfl⟩
  have hd:q≤1099511627776:=hq ▸ Nat.div_le_self _ _
  have ht:Int.tdiv 1099511627776 (b.natAbs:Int)=(q:Int):=hq ▸ tdiv_nat 1099511627776 b.natAbs
  have hqi:(1099511627776:Int) / (b.natAbs:Int)=(q:Int):=by rw [hq]; exact (Int.natCast_ediv 1099511627776 b.natAbs).symm
  have hw:IntKind.i64.wrap (q:Int)=(q:Int):=by rw [IntKind.wrap_i64]; omega
  by_cases h1:q<a.natAbs
  ·have h3:(q:Int)<(a.natAbs:Int):=by omega
   have e4:decide ((q:Int)<(a.natAbs:Int))=true:=decide_eq_true h3
   have e5:decide (q<a.natAbs)=true:=decide_eq_true h1
   have HV:Hid (opV 5 a b=.er 14):=Lib.hid (by simp only [opV]; rw [hqi]; simp [h0,h3])
   clear ha hb h1 h3 hq hd hqi
   go_enter Tryz.func113,Tryz.ntmps113
   go_wp2_with (first | (refine (HA.out _).mono ?_; rintro e w5 ⟨rfl,rfl⟩) | (refine (HB.out _).mono ?_; rintro e w5 ⟨rfl,rfl⟩))
   go_ret2
   exact ⟨by rw [HV.out]; rfl,Below.refl _ _⟩
  ·have h3:¬ (q:Int)<(a.natAbs:Int):=by omega
   have e4:decide ((q:Int)<(a.natAbs:Int))=false:=decide_eq_false h3
   have e5:decide (q<a.natAbs)=false:=decide_eq_false h1
   have HV:Hid (opV 5 a b=.ok (a * b)):=Lib.hid (by simp only [opV]; rw [hqi]; simp [h0,h3])
   have hm:a.natAbs * b.natAbs≤1099511627776:=(Nat.le_div_iff_mul_le (by omega)).1 (hq ▸ Nat.le_of_not_lt h1)
   rw [← Int.natAbs_mul] at hm
   have hw2:IntKind.i64.wrap (a * b)=a * b:=by rw [IntKind.wrap_i64]; omega
   clear ha hb h1 h3 hq hd hqi hm
   go_enter Tryz.func113,Tryz.ntmps113
   go_wp2_with (first | (refine (HA.out _).mono ?_; rintro e w5 ⟨rfl,rfl⟩) | (refine (HB.out _).mono ?_; rintro e w5 ⟨rfl,rfl⟩))
   go_ret2
   exact ⟨by rw [HV.out]; rfl,Below.refl _ _⟩
end Go.Proofs.YtedpopbaipnamaaGreatDoor

namespace Go.Proofs.YtedpopbaipnamaaGreatDoor
open Go.RowKit
/-- That function value, called with two numbers, answers so. -/
def OpC (W0:World) (g:Fn) (c:Array Value) (o:Int):Prop:=∃ F:Nat,g=.func F∧(∀ (args:Array Value) (W:World),(callFunc F args).run Tryz.prog W=.ok (.enter F args) W) ∧
 ∀ (a b:Int) (W:World),Sm a→Sm b→Below W0.heap.size W0 W→Calls Tryz.prog F (#[.int .i64 a,.int .i64 b]++c) W (Ret (.tuple #[.int .i64 (opV o a b).n,.int .i64 ((opV o a b).f:Nat)]) W)
theorem ret_of {f:Nat} {xs:Array Value} {v:Value} {w:World} (h:Calls Tryz.prog f xs w (RetP v w)):Calls Tryz.prog f xs w (Ret v w):=h.mono (by rintro e W ⟨rfl,rfl⟩; exact ⟨rfl,Below.refl _ _⟩)
/-- A box of the operators, in a later world. -/
theorem OpSt.later {w W0 W:World} (hS:OpSt w w.heap.size (opsKV w.heap.size) (opsCs w.heap.size) W0) (hB:Below W0.heap.size W0 W) (i:Nat) (v:Value) (hi:(opsCs w.heap.size)[i]? = some v):W.cell? ⟨w.heap.size+1+i,0,none⟩=some v:=by
 have h1:=hS.size
 have h2:i<(opsCs w.heap.size).length:=(List.getElem?_eq_some_iff.1 hi).1
 exact (hB.cell (p:=⟨w.heap.size+1+i,0,none⟩) (by show w.heap.size+1+i<W0.heap.size; omega)).trans (hS.at_ i v hi)
theorem op_num {w W0:World} (hS:OpSt w w.heap.size (opsKV w.heap.size) (opsCs w.heap.size) W0) (o:Int) (i F:Nat) (f:Int→Int→Int) (hi:(opsCs w.heap.size)[i]? = some (.func (.func F) #[] #[])) (eg:∀ (args:Array Value) (W:World),(callFunc F args).run Tryz.prog W=.ok (.enter F args) W)
  (hF:∀ a b W,Sm a→Sm b→Calls Tryz.prog F #[.int .i64 a,.int .i64 b] W (RetP (.int .i64 (f a b)) W)) (hv:∀ a b,opV o a b=.ok (f a b)):OpC W0 (.func 146) #[.pointer (some ⟨w.heap.size+1+i,0,none⟩)] o:=by
 refine ⟨_,rfl,fun args W=>by kernel_rfl,fun a b W ha hb hB=>?_⟩
 rw [hv a b]
 exact number_of F _ a b (f a b) _ W (hS.later hB i _ hi) eg (fun W' _=>ret_of (hF a b W' ha hb))
theorem op_truth {w W0:World} (hS:OpSt w w.heap.size (opsKV w.heap.size) (opsCs w.heap.size) W0) (o:Int) (i F:Nat) (f:Int→Int→Bool) (hi:(opsCs w.heap.size)[i]? = some (.func (.func F) #[] #[])) (hi1:(opsCs w.heap.size)[i+1]? = some (.func (.func 148) #[] #[.pointer (some ⟨w.heap.size+1+i,0,none⟩)])) (eg:∀ (args:Array Value) (W:World),(callFunc F args).run Tryz.prog W=.ok (.enter F args) W)
  (hF:∀ a b W,Calls Tryz.prog F #[.int .i64 a,.int .i64 b] W (RetP (.bool (f a b)) W)) (hv:∀ a b,opV o a b=.ok (oneI (f a b))):OpC W0 (.func 146) #[.pointer (some ⟨w.heap.size+1+(i+1),0,none⟩)] o:=by
 refine ⟨_,rfl,fun args W=>by kernel_rfl,fun a b W ha hb hB=>?_⟩
 rw [hv a b]
 refine number_of _ _ a b (oneI (f a b)) _ W (hS.later hB (i+1) _ hi1) (fun args W=>by kernel_rfl) (fun W' hB'=>?_)
 exact truth_of F _ a b (f a b) _ W' (hS.later (hB.trans (hB'.mono hB.size)) i _ hi) eg (fun W'' _=>ret_of (hF a b W''))
theorem op_div {w W0:World} (hS:OpSt w w.heap.size (opsKV w.heap.size) (opsCs w.heap.size) W0) (o:Int) (i F:Nat) (f:Int→Int→Int) (hi:(opsCs w.heap.size)[i]? = some (.func (.func F) #[] #[])) (eg:∀ (args:Array Value) (W:World),(callFunc F args).run Tryz.prog W=.ok (.enter F args) W)
  (hF:∀ a b W,Sm a→b≠0→Calls Tryz.prog F #[.int .i64 a,.int .i64 b] W (RetP (.int .i64 (f a b)) W)) (hv:∀ a b,opV o a b=if b=0 then .er 24 else .ok (f a b)):OpC W0 (.func 147) #[.pointer (some ⟨w.heap.size+1+i,0,none⟩)] o:=by
 refine ⟨_,rfl,fun args W=>by kernel_rfl,fun a b W ha hb hB=>?_⟩
 rw [hv a b]
 by_cases h0:b=0
 ·subst h0
  exact divide_no a _ W
 ·rw [if_neg h0]
  exact divide_of F _ a b (f a b) h0 _ W (hS.later hB i _ hi) eg (fun W' _=>ret_of (hF a b W' ha h0))
/-- Each known operator's function, called, answers so. -/
theorem op_call {w W0:World} (hS:OpSt w w.heap.size (opsKV w.heap.size) (opsCs w.heap.size) W0) {o:Int} (h:3≤o∧o≤15):∃ (i:Nat) (s:ByteArray) (p:Int) (g:Fn) (c:Array Value),findKV (opsKV w.heap.size) o 0=some (i,.agg #[.string s,.int .i64 p,.int .i64 (opArg o),.int .i64 (opRes o),.func g #[] c])∧OpC W0 g c o:=by
 have hc:o=3∨o=4∨o=5∨o=6∨o=7∨o=8∨o=9∨o=10∨o=11∨o=12∨o=13∨o=14∨o=15:=by omega
 rcases hc with rfl | rfl | rfl | rfl | rfl | rfl | rfl | rfl | rfl | rfl | rfl | rfl | rfl
 ·exact ⟨_,_,_,_,_,rfl,op_num hS 3 0 111 (fun a b=>a+b) rfl (fun _ _=>by kernel_rfl) (fun a b W ha hb=>add_any a b ha hb W) (fun _ _=>by simp [opV])⟩
 ·exact ⟨_,_,_,_,_,rfl,op_num hS 4 1 112 (fun a b=>a - b) rfl (fun _ _=>by kernel_rfl) (fun a b W ha hb=>sub_any a b ha hb W) (fun _ _=>by simp [opV])⟩
 ·exact ⟨_,_,_,_,_,rfl,_,rfl,fun _ _=>by kernel_rfl,fun a b W ha hb _=>times_any a b ha hb W⟩
 ·exact ⟨_,_,_,_,_,rfl,op_div hS 6 2 115 (fun a b=>a.tdiv b) rfl (fun _ _=>by kernel_rfl) (fun a b W ha hb=>quo_any a b ha hb W) (fun _ _=>by simp [opV])⟩
 ·exact ⟨_,_,_,_,_,rfl,op_div hS 7 3 116 (fun a b=>a.tmod b) rfl (fun _ _=>by kernel_rfl) (fun a b W ha hb=>rem_any a b ha hb W) (fun _ _=>by simp [opV])⟩
 ·exact ⟨_,_,_,_,_,rfl,op_truth hS 8 4 118 (fun a b=>decide (a=b)) rfl rfl (fun _ _=>by kernel_rfl) (fun a b W=>eq_any a b W) (fun a b=>by simp [opV])⟩
 ·exact ⟨_,_,_,_,_,rfl,op_truth hS 9 6 119 (fun a b=>!decide (a=b)) rfl rfl (fun _ _=>by kernel_rfl) (fun a b W=>ne_any a b W) (fun a b=>by simp [opV])⟩
 ·exact ⟨_,_,_,_,_,rfl,op_truth hS 10 8 120 (fun a b=>decide (a<b)) rfl rfl (fun _ _=>by kernel_rfl) (fun a b W=>lt_any a b W) (fun a b=>by simp [opV])⟩
 ·exact ⟨_,_,_,_,_,rfl,op_truth hS 11 10 121 (fun a b=>decide (a≤b)) rfl rfl (fun _ _=>by kernel_rfl) (fun a b W=>le_any a b W) (fun a b=>by simp [opV])⟩
 ·exact ⟨_,_,_,_,_,rfl,op_truth hS 12 12 122 (fun a b=>decide (b<a)) rfl rfl (fun _ _=>by kernel_rfl) (fun a b W=>gt_any a b W) (fun a b=>by simp [opV])⟩
 ·exact ⟨_,_,_,_,_,rfl,op_truth hS 13 14 123 (fun a b=>decide (b≤a)) rfl rfl (fun _ _=>by kernel_rfl) (fun a b W=>ge_any a b W) (fun a b=>by simp [opV])⟩
 ·exact ⟨_,_,_,_,_,rfl,op_truth hS 14 16 124 (fun a b=>a != 0 && b != 0) rfl rfl (fun _ _=>by kernel_rfl) (fun a b W=>and_any a b W) (fun a b=>by simp [opV]; congr 1)⟩
 ·exact ⟨_,_,_,_,_,rfl,op_truth hS 15 18 125 (fun a b=>a != 0 || b != 0) rfl rfl (fun _ _=>by kernel_rfl) (fun a b W=>or_any a b W) (fun a b=>by simp [opV]; congr 1)⟩
end Go.Proofs.YtedpopbaipnamaaGreatDoor
