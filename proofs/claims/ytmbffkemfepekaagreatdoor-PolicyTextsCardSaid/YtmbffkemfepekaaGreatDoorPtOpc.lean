/- The value of a known operator, called. Conditions: the operators' map and its boxes lie in memory, the operands are small. -/
import Derived.Test.YtmbffkemfepekaaGreatDoorPtTyp
import Derived.Test.YtmbffkemfepekaaGreatDoorPtPolL
import Derived.Test.YtmbffkemfepekaaGreatDoorPtOps
import Derived.Test.YtmbffkemfepekaaGreatDoorPtPolM
import Derived.WalkLawsBesides
import Derived.Lib.QuietBelow
namespace Go.Proofs.YtmbffkemfepekaaGreatDoor
open Go.RowKit
/-- That function value, called with two numbers, answers so. -/
def OpC (W0:World) (g:Fn) (c:Array Value) (o:Int):Prop:=∃ F:Nat,g=.func F∧(∀ (args:Array Value) (W:World),(callFunc F args).run Tryz.prog W=.ok (.enter F args) W) ∧
 ∀ (a b:Int) (W:World),Sm a→Sm b→Below W0.heap.size W0 W→Calls Tryz.prog F (#[.int .i64 a,.int .i64 b]++c) W (Ret (.tuple #[.int .i64 (opV o a b).n,.int .i64 ((opV o a b).f:Nat)]) W)
theorem ret_of {f:Nat} {xs:Array Value} {v:Value} {w:World} (h:Calls Tryz.prog f xs w (RetP v w)):Calls Tryz.prog f xs w (Ret v w):=h.mono (by rintro e W ⟨rfl,rfl⟩; exact ⟨rfl,Below.refl _ _⟩)
/-- A box of the operators, in a later world. -/
theorem OpSt.later {w W0 W:World} (hS:OpSt w w.heap.size (opsKV w.heap.size) (opsCs w.heap.size) W0) (hB:Below W0.heap.size W0 W) (i:Nat) (v:Value) (hi:(opsCs w.heap.size)[i]? = some v):W.cell? ⟨w.heap.size+1+i,0,none⟩=some v:=by
 have h1:=hS.size
 have h2:i<(opsCs w.heap.size).length:=(List.getElem?_eq_some_iff.1 hi).1
 exact (hB.cell (p:=⟨w.heap.size+1+i,0,none⟩) (by show w.heap.size+1+i<W0.heap.size; omega)).trans (hS.at_ i v hi)
theorem op_num {w W0:World} (hS:OpSt w w.heap.size (opsKV w.heap.size) (opsCs w.heap.size) W0) (o:Int) (i F:Nat) (f:Int→Int→Int) (hi:(opsCs w.heap.size)[i]? = some (.func (.func F) #[] #[])) (eg:∀ (args:Array Value) (W:World),(callFunc F args).run Tryz.prog W=.ok (.enter F args) W)
  (hF:∀ a b W,Sm a→Sm b→Calls Tryz.prog F #[.int .i64 a,.int .i64 b] W (RetP (.int .i64 (f a b)) W)) (hv:∀ a b,opV o a b=.ok (f a b)):OpC W0 (.func 154) #[.pointer (some ⟨w.heap.size+1+i,0,none⟩)] o:=by
 refine ⟨_,rfl,fun args W=>by kernel_rfl,fun a b W ha hb hB=>?_⟩
 rw [hv a b]
 exact number_of F _ a b (f a b) _ W (hS.later hB i _ hi) eg (fun W' _=>ret_of (hF a b W' ha hb))
theorem op_truth {w W0:World} (hS:OpSt w w.heap.size (opsKV w.heap.size) (opsCs w.heap.size) W0) (o:Int) (i F:Nat) (f:Int→Int→Bool) (hi:(opsCs w.heap.size)[i]? = some (.func (.func F) #[] #[])) (hi1:(opsCs w.heap.size)[i+1]? = some (.func (.func 156) #[] #[.pointer (some ⟨w.heap.size+1+i,0,none⟩)])) (eg:∀ (args:Array Value) (W:World),(callFunc F args).run Tryz.prog W=.ok (.enter F args) W)
  (hF:∀ a b W,Calls Tryz.prog F #[.int .i64 a,.int .i64 b] W (RetP (.bool (f a b)) W)) (hv:∀ a b,opV o a b=.ok (oneI (f a b))):OpC W0 (.func 154) #[.pointer (some ⟨w.heap.size+1+(i+1),0,none⟩)] o:=by
 refine ⟨_,rfl,fun args W=>by kernel_rfl,fun a b W ha hb hB=>?_⟩
 rw [hv a b]
 refine number_of _ _ a b (oneI (f a b)) _ W (hS.later hB (i+1) _ hi1) (fun args W=>by kernel_rfl) (fun W' hB'=>?_)
 exact truth_of F _ a b (f a b) _ W' (hS.later (hB.trans (hB'.mono hB.size)) i _ hi) eg (fun W'' _=>ret_of (hF a b W''))
theorem op_div {w W0:World} (hS:OpSt w w.heap.size (opsKV w.heap.size) (opsCs w.heap.size) W0) (o:Int) (i F:Nat) (f:Int→Int→Int) (hi:(opsCs w.heap.size)[i]? = some (.func (.func F) #[] #[])) (eg:∀ (args:Array Value) (W:World),(callFunc F args).run Tryz.prog W=.ok (.enter F args) W)
  (hF:∀ a b W,Sm a→b≠0→Calls Tryz.prog F #[.int .i64 a,.int .i64 b] W (RetP (.int .i64 (f a b)) W)) (hv:∀ a b,opV o a b=if b=0 then .er 24 else .ok (f a b)):OpC W0 (.func 155) #[.pointer (some ⟨w.heap.size+1+i,0,none⟩)] o:=by
 refine ⟨_,rfl,fun args W=>by kernel_rfl,fun a b W ha hb hB=>?_⟩
 rw [hv a b]
 by_cases h0:b=0
 ·subst h0
  exact divide_no a _ W
 ·rw [if_neg h0]
  exact divide_of F _ a b (f a b) h0 _ W (hS.later hB i _ hi) eg (fun W' _=>ret_of (hF a b W' ha h0))
/-- Each known operator's function, called, answers so. -/
theorem op_call {w W0:World} (hS:OpSt w w.heap.size (opsKV w.heap.size) (opsCs w.heap.size) W0) {o:Int} (h:3≤o∧o≤15):∃ (i:Nat) (s:ByteArray) (p:Int) (g:Fn) (c:Array Value),findKV (opsKV w.heap.size) o 0=some (i,.agg #[.string s,.int .i64 p,.int .i64 (opArg o),.int .i64 (opRes o),.func g #[] c])∧OpC W0 g c o:=by
 have hc:o=3∨o=4∨o=5∨o=6∨o=7∨o=8∨o=9∨o=10∨o=11∨o=12∨o=13∨o=14∨o=15:=by omega
 rcases hc with rfl | rfl | rfl | rfl | rfl | rfl | rfl | rfl | rfl | rfl | rfl | rfl | rfl
 ·exact ⟨_,_,_,_,_,rfl,op_num hS 3 0 117 (fun a b=>a+b) rfl (fun _ _=>by kernel_rfl) (fun a b W ha hb=>add_any a b ha hb W) (fun _ _=>by simp [opV])⟩
 ·exact ⟨_,_,_,_,_,rfl,op_num hS 4 1 118 (fun a b=>a - b) rfl (fun _ _=>by kernel_rfl) (fun a b W ha hb=>sub_any a b ha hb W) (fun _ _=>by simp [opV])⟩
 ·exact ⟨_,_,_,_,_,rfl,_,rfl,fun _ _=>by kernel_rfl,fun a b W ha hb _=>times_any a b ha hb W⟩
 ·exact ⟨_,_,_,_,_,rfl,op_div hS 6 2 121 (fun a b=>a.tdiv b) rfl (fun _ _=>by kernel_rfl) (fun a b W ha hb=>quo_any a b ha hb W) (fun _ _=>by simp [opV])⟩
 ·exact ⟨_,_,_,_,_,rfl,op_div hS 7 3 122 (fun a b=>a.tmod b) rfl (fun _ _=>by kernel_rfl) (fun a b W ha hb=>rem_any a b ha hb W) (fun _ _=>by simp [opV])⟩
 ·exact ⟨_,_,_,_,_,rfl,op_truth hS 8 4 124 (fun a b=>decide (a=b)) rfl rfl (fun _ _=>by kernel_rfl) (fun a b W=>eq_any a b W) (fun a b=>by simp [opV])⟩
 ·exact ⟨_,_,_,_,_,rfl,op_truth hS 9 6 125 (fun a b=>!decide (a=b)) rfl rfl (fun _ _=>by kernel_rfl) (fun a b W=>ne_any a b W) (fun a b=>by simp [opV])⟩
 ·exact ⟨_,_,_,_,_,rfl,op_truth hS 10 8 126 (fun a b=>decide (a<b)) rfl rfl (fun _ _=>by kernel_rfl) (fun a b W=>lt_any a b W) (fun a b=>by simp [opV])⟩
 ·exact ⟨_,_,_,_,_,rfl,op_truth hS 11 10 127 (fun a b=>decide (a≤b)) rfl rfl (fun _ _=>by kernel_rfl) (fun a b W=>le_any a b W) (fun a b=>by simp [opV])⟩
 ·exact ⟨_,_,_,_,_,rfl,op_truth hS 12 12 128 (fun a b=>decide (b<a)) rfl rfl (fun _ _=>by kernel_rfl) (fun a b W=>gt_any a b W) (fun a b=>by simp [opV])⟩
 ·exact ⟨_,_,_,_,_,rfl,op_truth hS 13 14 129 (fun a b=>decide (b≤a)) rfl rfl (fun _ _=>by kernel_rfl) (fun a b W=>ge_any a b W) (fun a b=>by simp [opV])⟩
 ·exact ⟨_,_,_,_,_,rfl,op_truth hS 14 16 130 (fun a b=>a != 0 && b != 0) rfl rfl (fun _ _=>by kernel_rfl) (fun a b W=>and_any a b W) (fun a b=>by simp [opV]; congr 1)⟩
 ·exact ⟨_,_,_,_,_,rfl,op_truth hS 15 18 131 (fun a b=>a != 0 || b != 0) rfl rfl (fun _ _=>by kernel_rfl) (fun a b W=>or_any a b W) (fun a b=>by simp [opV]; congr 1)⟩
end Go.Proofs.YtmbffkemfepekaaGreatDoor

namespace Go.Proofs.YtmbffkemfepekaaGreatDoor
open Go.RowKit
theorem oneI_le (b:Bool):(oneI b).natAbs≤1:=by cases b <;> simp [oneI]
theorem opV_ne {o a b:Int} {f:Nat} (h:opV o a b=.er f):f≠0:=by
 unfold opV at h
 by_cases h3:o=3
 ·rw [if_pos h3] at h
  cases h
 rw [if_neg h3] at h
 by_cases h4:o=4
 ·rw [if_pos h4] at h
  cases h
 rw [if_neg h4] at h
 by_cases h5:o=5
 ·rw [if_pos h5] at h
  split at h
  ·injection h with h; omega
  ·cases h
 rw [if_neg h5] at h
 by_cases h6:o=6
 ·rw [if_pos h6] at h
  split at h
  ·injection h with h; omega
  ·cases h
 rw [if_neg h6] at h
 by_cases h7:o=7
 ·rw [if_pos h7] at h
  split at h
  ·injection h with h; omega
  ·cases h
 rw [if_neg h7] at h
 by_cases h8:o=8
 ·rw [if_pos h8] at h
  cases h
 rw [if_neg h8] at h
 by_cases h9:o=9
 ·rw [if_pos h9] at h
  cases h
 rw [if_neg h9] at h
 by_cases h10:o=10
 ·rw [if_pos h10] at h
  cases h
 rw [if_neg h10] at h
 by_cases h11:o=11
 ·rw [if_pos h11] at h
  cases h
 rw [if_neg h11] at h
 by_cases h12:o=12
 ·rw [if_pos h12] at h
  cases h
 rw [if_neg h12] at h
 by_cases h13:o=13
 ·rw [if_pos h13] at h
  cases h
 rw [if_neg h13] at h
 by_cases h14:o=14
 ·rw [if_pos h14] at h
  cases h
 rw [if_neg h14] at h
 cases h
theorem opV_bd {o a b n:Int} (ha:Sm a) (hb:Sm b) (h:opV o a b=.ok n):n.natAbs≤4611686018427387904:=by
 unfold opV at h
 unfold Sm at ha hb
 by_cases h3:o=3
 ·rw [if_pos h3] at h
  injection h with h; omega
 rw [if_neg h3] at h
 by_cases h4:o=4
 ·rw [if_pos h4] at h
  injection h with h; omega
 rw [if_neg h4] at h
 by_cases h5:o=5
 ·rw [if_pos h5] at h
  split at h
  ·cases h
  ·next hx=>
   injection h with h
   by_cases h0:b=0
   ·subst h0; simp at h; omega
   ·have hq:(1099511627776:Int) / (b.natAbs:Int)=((1099511627776 / b.natAbs:Nat):Int):=(Int.natCast_ediv 1099511627776 b.natAbs).symm
    have h1:a.natAbs≤1099511627776 / b.natAbs:=by
     refine Decidable.byContradiction fun hc=>hx ⟨h0,?_⟩
     rw [hq]; omega
    have hm:a.natAbs * b.natAbs≤1099511627776:=(Nat.le_div_iff_mul_le (by omega)).1 h1
    rw [← Int.natAbs_mul,h] at hm
    omega
 rw [if_neg h5] at h
 by_cases h6:o=6
 ·rw [if_pos h6] at h
  split at h
  ·cases h
  ·injection h with h
   rw [← h,Int.natAbs_tdiv]
   exact Nat.le_trans (Nat.div_le_self a.natAbs b.natAbs) (by omega)
 rw [if_neg h6] at h
 by_cases h7:o=7
 ·rw [if_pos h7] at h
  split at h
  ·cases h
  ·injection h with h
   rw [← h,Int.natAbs_tmod]
   exact Nat.le_trans (Nat.mod_le a.natAbs b.natAbs) (by omega)
 rw [if_neg h7] at h
 by_cases h8:o=8
 ·rw [if_pos h8] at h
  injection h with h; rw [← h]; exact Nat.le_trans (oneI_le _) (by decide)
 rw [if_neg h8] at h
 by_cases h9:o=9
 ·rw [if_pos h9] at h
  injection h with h; rw [← h]; exact Nat.le_trans (oneI_le _) (by decide)
 rw [if_neg h9] at h
 by_cases h10:o=10
 ·rw [if_pos h10] at h
  injection h with h; rw [← h]; exact Nat.le_trans (oneI_le _) (by decide)
 rw [if_neg h10] at h
 by_cases h11:o=11
 ·rw [if_pos h11] at h
  injection h with h; rw [← h]; exact Nat.le_trans (oneI_le _) (by decide)
 rw [if_neg h11] at h
 by_cases h12:o=12
 ·rw [if_pos h12] at h
  injection h with h; rw [← h]; exact Nat.le_trans (oneI_le _) (by decide)
 rw [if_neg h12] at h
 by_cases h13:o=13
 ·rw [if_pos h13] at h
  injection h with h; rw [← h]; exact Nat.le_trans (oneI_le _) (by decide)
 rw [if_neg h13] at h
 by_cases h14:o=14
 ·rw [if_pos h14] at h
  injection h with h; rw [← h]; exact Nat.le_trans (oneI_le _) (by decide)
 rw [if_neg h14] at h
 injection h with h; rw [← h]; exact Nat.le_trans (oneI_le _) (by decide)
theorem capA_ne {x:Ans} {f:Nat} (hx:∀ g,x=.er g→g≠0) (h:capA x=.er f):f≠0:=by
 cases x with
 | er g=>simp only [capA] at h; exact hx f h
 | ok n=>
  simp only [capA] at h
  split at h
  ·injection h with h; omega
  ·cases h
theorem val1_ne {l:List Bd} {k o:Int} {n:ByteArray} {v:Int} {ts:List Int} {f:Nat} (h:val1 l k o n v ts=.er f):f≠0:=by
 unfold val1 at h
 refine capA_ne (fun g hg=>?_) h
 by_cases h1:k=1
 ·rw [if_pos h1] at hg; cases hg
 rw [if_neg h1] at hg
 by_cases h2:k=2
 ·rw [if_pos h2] at hg; cases hg
 rw [if_neg h2] at hg
 by_cases h3:k=3
 ·rw [if_pos h3] at hg
  split at hg <;> cases hg
 rw [if_neg h3] at hg
 exact opV_ne hg
theorem valL_ne {l:List Bd} {zs:List Ex} (h:∀ a∈zs,∀ f,valE l a=.er f→f≠0):∀ (acc:List Int) (f:Nat),valL l (.ok acc) zs=.er f→f≠0:=by
 induction zs with
 | nil=>intro acc f h; simp [valL] at h
 | cons a zs ih=>
  intro acc f hf
  simp only [valL] at hf
  cases e:valE l a with
  | er g=>
   rw [e] at hf
   simp only [AnsL.push] at hf
   rw [valL_er] at hf
   injection hf with hf
   subst hf
   exact h a (by simp) g e
  | ok n=>
   rw [e] at hf
   exact ih (fun b hb=>h b (by simp [hb])) _ f hf
theorem valE_ne (l:List Bd):∀ (e:Ex) (f:Nat),valE l e=.er f→f≠0:=by
 intro e
 induction e using Ex.ind with
 | h k o n v zs ih=>
  intro f hf
  rw [valE_mk] at hf
  cases hL:valL l (.ok []) zs with
  | er g=>rw [hL] at hf; injection hf with hf; subst hf; exact valL_ne ih _ _ hL
  | ok ts=>rw [hL] at hf; exact val1_ne hf
theorem abs_hid (n:Int) (h:n.natAbs≤4611686018427387904):Hid (∀ W,Calls Tryz.prog 151 #[.int .i64 n] W (RetP (.int .i64 (n.natAbs:Int)) W)):=Lib.hid (abs_any n h)
theorem op_field (s:ByteArray) (p a r:Int) (F:Nat) (c:Array Value) (W:World):(Instr.field 124 (.agg #[.string s,.int .i64 p,.int .i64 a,.int .i64 r,.func (.func F) #[] c]) 4).run Tryz.prog W=.ok (.func (.func F) #[] c) W:=by kernel_rfl
/-- operators' contract for a region that calls a known operator. -/
theorem ops_fun (V:World) (o:Int) (hk:3≤o∧o≤15):Calls Tryz.prog 71 #[] V fun e W=>∃ (M:Nat) (s:ByteArray) (p:Int) (F:Nat) (c:Array Value),e=.returned (.map (some M)) ∧
  Below V.heap.size V W∧(Instr.lookup 125 (.map (some M)) (.int .i64 o) false).run Tryz.prog W=.ok (.agg #[.string s,.int .i64 p,.int .i64 (opArg o),.int .i64 (opRes o),.func (.func F) #[] c]) W∧(∀ (args:Array Value) (W:World),(callFunc F args).run Tryz.prog W=.ok (.enter F args) W) ∧
  Hid (∀ (a b:Int),Sm a→Sm b→Calls Tryz.prog F (#[.int .i64 a,.int .i64 b]++c) W (Ret (.tuple #[.int .i64 (opV o a b).n,.int .i64 ((opV o a b).f:Nat)]) W)):=by
 refine (operators_any V).mono ?_
 rintro e W ⟨rfl,hS⟩
 obtain ⟨i,s,p,g,c,hf,F,rfl,eg,hF⟩:=op_call hS hk
 exact ⟨_,s,p,F,c,rfl,hS.below,by rw [hS.map.look o false,hf]; rfl,eg,Lib.hid (fun a b ha hb=>hF a b W ha hb (Below.refl _ _))⟩
set_option maxRecDepth 100000 in
set_option maxHeartbeats 6400000 in
theorem value_any (bs:List Bd) (Ab:Option Addr) (cb Bb:Nat) (hbl:bs.length≤140737488355328) (hsm:∀ b∈bs,b.val.natAbs≤1099511627776):∀ (e:Ex) (lo:Nat) (vs:List Value) (w:World),Good e→LiesE w lo vs e→lo≤w.heap.size→RdB w Bb Ab bs→Bb≤w.heap.size →
  Calls Tryz.prog 108 #[.agg vs.toArray,.slice Ab bs.length cb] w (Ret (ansV (valE bs e)) w):=by
 intro e
 induction e using Ex.ind with
 | h k o n v xs ih=>
  intro lo vs w hG hL hlo hR hBb
  obtain ⟨A,cap,rfl,bd,harg⟩:=hL.arg
  obtain ⟨i0,hi,hz0,hz1,hz2⟩:=info_parts intInfo
  have hP:=part_of hG.self
  have hlen:xs.length≤2:=by
   have h1:=hP.len
   simp only [Ex.args,Ex.kind] at h1
   rw [h1]; unfold argsN; split
   ·omega
   ·split <;> omega
  have hO:=one_new w #[.int .i64 k,.int .i64 o,.string n,.int .i64 v,.slice A xs.length cap] 38
  have hz:(w.alloc (.cells #[.int .i64 k,.int .i64 o,.string n,.int .i64 v,.slice A xs.length cap] 38)).heap.size=w.heap.size+1:=by simp
  have HARG:=Lib.hid harg
  have HIH:=Lib.hid (fun a ha=>ih a ha)
  have HG:=Lib.hid (fun a (ha:a∈xs)=>hG.arg ha)
  have HR:=Lib.hid hR
  have HP:=Lib.hid hP
  have HSM:=Lib.hid hsm
  simp only [Ex.kind,Ex.op,Ex.name,Ex.val,Ex.args] at HARG HP ⊢
  clear harg ih hL bd hG hR hP hsm
  unfold exC Ret
  go_enter Tryz.func108,Tryz.ntmps108
  go_upto_region 1 with fail
  generalize w.alloc _=w1 at hO hz ⊢
  obtain ⟨x0,x1,x2,x3,x4⟩:=bx5 hO.fst
  go_wp2_with fail
  clear x0 x1 x2 x3 x4
  have HLEN:=Lib.hid hlen
  go_loopw [4,5,6,18] (fun r4 r5 tv i wr=>r4=.int .i64 0∧r5=.int .i64 0∧∃ (j:Nat) (ts:List Int),i=.int .i64 (j:Nat)∧j≤xs.length∧Hid (valL bs (.ok []) (xs.take j)=.ok ts)∧wr.ownsRow (w.heap.size+1) 3 1 tv ts.length (i64s ts)∧Below (w.heap.size+1) w1 wr) (fun _ _ _ i _=>xs.length - (intOf i).toNat)
  case atStart=>exact ⟨rfl,rfl,0,[],rfl,Nat.zero_le _,Lib.hid (by simp [valL]),World.ownsRow_nil _ _ _ _,Below.refl _ _⟩
  case round=>
   obtain ⟨rfl,rfl,j,ts,rfl,hj,hts,hown,hb⟩:=hrel
   have hj0:(0:Int)≤(j:Int):=by omega
   have hwr1:IntKind.i64.wrap ((j:Int)+1)=(j:Int)+1:=by rw [IntKind.wrap_i64]; omega
   have hbw:Below w.heap.size w wr:=hO.below.trans (hb.mono (Nat.le_succ _))
   have hz3:w.heap.size+1≤wr.heap.size:=by have:=hb.size; omega
   have htl:ts.length=j:=by
    have:=valL_len bs _ _ _ hts.out
    simp [List.length_take] at this; omega
   by_cases hlt:j<xs.length
   ·have hd1:decide ((j:Int)<(xs.length:Int))=true:=decide_eq_true (by omega)
    have hd3:decide (j<xs.length)=true:=decide_eq_true hlt
    have hjl:(j:Int)<(xs.length:Int):=by omega
    obtain ⟨b1,off,k1,o1,n1,v1,A1,m1,cap1,rfl,hb1,hL1,y0,y1,y2,y3,y4⟩:=HARG.out j hlt
    have z0:=(hbw.cell (p:=⟨b1,off+j * 5,none⟩) (by show b1<w.heap.size; omega)).trans y0
    have z1:=(hbw.cell (p:=⟨b1,off+j * 5+1,none⟩) (by show b1<w.heap.size; omega)).trans y1
    have z2:=(hbw.cell (p:=⟨b1,off+j * 5+2,none⟩) (by show b1<w.heap.size; omega)).trans y2
    have z3:=(hbw.cell (p:=⟨b1,off+j * 5+3,none⟩) (by show b1<w.heap.size; omega)).trans y3
    have z4:=(hbw.cell (p:=⟨b1,off+j * 5+4,none⟩) (by show b1<w.heap.size; omega)).trans y4
    have hO4:=one_new wr #[.int .i64 k1,.int .i64 o1,.string n1,.int .i64 v1,.slice A1 m1 cap1] 38
    have hown4:=World.ownsRow.alloc hown (.cells #[.int .i64 k1,.int .i64 o1,.string n1,.int .i64 v1,.slice A1 m1 cap1] 38)
    have HO:=Lib.hid hO
    clear y0 y1 y2 y3 y4 hown hO
    go_upto_region 5 with fail
    generalize wr.alloc _=w4 at hO4 hown4 ⊢
    obtain ⟨x0,x1,x2,x3,x4⟩:=bx5 hO4.fst
    have hb4:Below w.heap.size w w4:=hbw.trans (hO4.below.mono (by omega))
    have hbb4:Below (w.heap.size+1) w1 w4:=hb.trans (hO4.below.mono hz3)
    have hz4:=hO4.size
    have hs:=HIH.out xs[j] (List.getElem_mem _) lo (exC k1 o1 n1 v1 A1 m1 cap1) w4 (HG.out _ (List.getElem_mem _)) (hL1.below' hb4 hlo) (by omega) (Rd.below' HR.out hb4 hBb) (by omega)
    unfold exC ansV at hs
    have HS:=Lib.hid hs
    have HTK:=Lib.hid (valL_take bs xs j hlt)
    have HER:Hid (∀ f,valE bs xs[j]=.er f→valE bs (Ex.mk k o n v xs)=.er f∧f≠0):=Lib.hid (fun f hf=>⟨by rw [valE_mk,valL_split bs xs j f hlt ts hts.out hf],valE_ne bs _ f hf⟩)
    clear hO4 hs hL1 hb hbw z0 z1 z2 z3 z4
    cases hans:valE bs xs[j] with
    | er f=>
     have HE:=Lib.hid (HER.out f hans)
     have hf0:=HE.out.2
     have e1:((f:Int) != 0)=true:=by simpa using hf0
     have e2:(f != 0)=true:=by simpa using hf0
     rw [hans] at HS
     simp only [Ans.n,Ans.f] at HS
     have HF0:=Lib.hid hf0
     clear hf0 hans HER
     go_wp2_with fail
     refine HS.out.mono ?_
     rintro e w5 ⟨rfl,hb5⟩
     clear x0 x1 x2 x3 x4 HS
     go_wp2_with fail
     go_ret2
     exact ⟨by rw [HE.out.1]; rfl,hb4.trans (hb5.mono hb4.size)⟩
    | ok t=>
     rw [hans] at HS
     simp only [Ans.n,Ans.f] at HS
     have HT2:Hid (valL bs (.ok []) (xs.take (j+1))=.ok (ts++[t])):=Lib.hid (by rw [HTK.out,hts.out,hans]; rfl)
     clear hans HER HTK hts
     go_wp2_with fail
     refine HS.out.mono ?_
     rintro e w5 ⟨rfl,hb5⟩
     have hown5:=own_next hown4 hb5
     have hbb5:Below (w.heap.size+1) w1 w5:=hbb4.trans (hb5.mono (by omega))
     have hz5:w.heap.size+1≤w5.heap.size:=by have:=hb5.size; omega
     have hmx:ts.length+1≤maxLen:=by unfold maxLen; omega
     have hby:(ts.length+1) * 8≤140737488355328:=by omega
     have hbs:w.heap.size+1≤(w5.alloc (.cells #[.int .i64 t] 3)).heap.size:=by simp; omega
     have hbl6:=hbb5.trans ((below_alloc w5 (.cells #[.int .i64 t] 3)).mono hz5)
     clear x0 x1 x2 x3 x4 HS hown4 hb5
     go_wp2_with (at_builtin; refine wpList_append_own _ rfl (.tmp 31) (.tmp 33) _ rfl (w.heap.size+1) 3 i0 (.int .i64 0) 1 8 Tryz.underlying41 hi hz0 hz1 hz2 rfl (by omega) _ _ _ rfl (World.ownsRow.alloc hown5 _) ⟨w5.heap.size,0,none⟩ 1 1 [.int .i64 t] rfl rfl (cell_one _ _ _) (by simp [Value.oneCell']) hmx hby hbs ?_; intro v2 w6 hown6 hg6 _)
     exact ⟨⟨rfl,rfl,j+1,ts++[t],by go_num,by omega,HT2,by rw [List.length_append,i64s_append]; exact hown6,hbl6.grown hg6 hbs (fun g e=>(World.ownsRow.lt hown5 g e).1)⟩,by simp [intOf]; omega⟩
   ·have hd1:decide ((j:Int)<(xs.length:Int))=false:=decide_eq_false (by omega)
    have hd3:decide (j<xs.length)=false:=decide_eq_false hlt
    have HTS0:Hid (valL bs (.ok []) xs=.ok ts):=Lib.hid (by
     have:=hts.out
     rwa [List.take_of_length_le (by omega)] at this)
    have HTS:Hid (valE bs (Ex.mk k o n v xs)=val1 bs k o n v ts):=Lib.hid (by
     have:=hts.out
     rw [List.take_of_length_le (by omega)] at this
     rw [valE_mk,this])
    have hlk:ts.length=argsN k:=by have h1:=HP.out.len; simp only [Ex.args,Ex.kind] at h1; omega
    have HLK:=Lib.hid hlk
    have hBx:=hO.fst.below hb (by omega)
    obtain ⟨x0,x1,x2,x3,x4⟩:=bx5 hBx
    have HO:=Lib.hid hO
    have HBW:=Lib.hid hbw
    have HB:=Lib.hid hb
    clear hts htl hlk hBx hO hbw hb hj hlt
    have HTB:Hid (∀ x∈ts,x.natAbs≤1099511627776):=Lib.hid (valL_bd bs xs [] ts (by simp) HTS0.out)
    clear HTS0
    go_upto_region 11 with fail
    have hk1:=HP.out.lo
    have hk4:=HP.out.hi
    simp only [Ex.kind] at hk1 hk4
    have hkk:k=1∨k=2∨k=3∨k=4:=by omega
    clear hk1 hk4
    rcases hkk with rfl | rfl | rfl | rfl
    ·have hrg:=HP.out.range rfl
     simp only [Ex.val] at hrg
     have HV:Hid (valE bs (Ex.mk 1 o n v xs)=.ok v):=Lib.hid (by rw [HTS.out]; simp only [val1,if_true,capA]; rw [if_neg (by omega)])
     have HAB:=abs_hid (v) (by omega)
     unfold RetP at HAB
     have a1:decide (((v).natAbs:Int) > 1099511627776)=false:=decide_eq_false (by omega)
     have a2:decide (1099511627776<((v).natAbs:Int))=false:=decide_eq_false (by omega)
     have a3:decide (1099511627776<(v).natAbs)=false:=decide_eq_false (by omega)
     clear HTS HTB hown hrg
     go_wp2_with (go_at_call 151; refine (HAB.out _).mono ?_; rintro e w8 ⟨rfl,rfl⟩)
     go_ret2
     exact ⟨by rw [HV.out]; rfl,HBW.out⟩
    ·clear hown
     have HFN:=Lib.hid (fun (W:World) (hbW:Below w.heap.size w W)=>find_any Ab cb Bb bs n W (Rd.below' HR.out hbW hBb) (Nat.le_trans hBb hbW.size) hbl)
     have HT1:Hid (valE bs (Ex.mk 2 o n v xs)=capA (.ok (match findB bs n with | none=>0 | some b=>b.val))):=Lib.hid (by rw [HTS.out]; rfl)
     have HSB:Hid (∀ b,findB bs n=some b→b.val.natAbs≤1099511627776):=Lib.hid (fun b hb=>HSM.out b (List.mem_of_find?_eq_some hb))
     clear HTS HTB
     generalize findB bs n=fb at HFN HT1 HSB
     cases fb with
     | none=>
      unfold fndV at HFN
      dsimp only at HFN HT1
      have HV:Hid (valE bs (Ex.mk 2 o n v xs)=.ok 0):=Lib.hid (by rw [HT1.out]; rfl)
      clear HT1 HSB
      have HAB:=abs_hid 0 (by decide)
      unfold RetP at HAB
      go_wp2_with (first | (go_at_call 105; refine (HFN.out _ HBW.out).mono ?_; rintro e w5 ⟨rfl,hb5⟩) | (go_at_call 151; refine (HAB.out _).mono ?_; rintro e w8 ⟨rfl,rfl⟩))
      go_ret2
      exact ⟨by rw [HV.out]; rfl,(HBW.out.trans (hb5.mono HBW.out.size)).alloc (Nat.le_trans HBW.out.size hb5.size) _⟩
     | some b=>
      unfold fndV at HFN
      dsimp only at HFN HT1
      have hsb:=HSB.out b rfl
      generalize b.val=bv at HFN HT1 hsb
      have HV:Hid (valE bs (Ex.mk 2 o n v xs)=.ok bv):=Lib.hid (by rw [HT1.out]; simp only [capA]; rw [if_neg (by omega)])
      clear HT1 HSB
      have HAB:=abs_hid (bv) (by omega)
      unfold RetP at HAB
      have a1:decide (((bv).natAbs:Int) > 1099511627776)=false:=decide_eq_false (by omega)
      have a2:decide (1099511627776<((bv).natAbs:Int))=false:=decide_eq_false (by omega)
      have a3:decide (1099511627776<(bv).natAbs)=false:=decide_eq_false (by omega)
      clear hsb
      go_wp2_with (first | (go_at_call 105; refine (HFN.out _ HBW.out).mono ?_; rintro e w5 ⟨rfl,hb5⟩) | (go_at_call 151; refine (HAB.out _).mono ?_; rintro e w8 ⟨rfl,rfl⟩))
      go_ret2
      exact ⟨by rw [HV.out]; rfl,(HBW.out.trans (hb5.mono HBW.out.size)).alloc (Nat.le_trans HBW.out.size hb5.size) _⟩
    ·have hun:=HP.out.un rfl
     simp only [Ex.op] at hun
     have hl1:ts.length=1:=HLK.out
     obtain ⟨t0,rfl⟩:∃ t0,ts=[t0]:=by
      match ts,hl1 with
      | [t],_=>exact ⟨t,rfl⟩
     obtain ⟨g,gc,rfl,-,hgl⟩:=hown.form (by simp)
     have c0:wr.cell? ⟨g,0,none⟩=some (.int .i64 t0):=by
      have:=hown.cells (g:=g) rfl 0 _ rfl
      simpa [Addr.add] using this
     have ht0:=HTB.out t0 (by simp)
     clear hown hl1 HTB
     rcases hun with rfl | rfl
     ·have HV:Hid (valE bs (Ex.mk 3 1 n v xs)=.ok (-t0)):=Lib.hid (by rw [HTS.out]; exact (by simp only [capA]; rw [if_neg (by omega)]:capA (.ok (-t0))=.ok (-t0)))
      have hw0:IntKind.i64.wrap (-t0) = -t0:=by rw [IntKind.wrap_i64]; omega
      have HAB:=abs_hid (-t0) (by omega)
      unfold RetP at HAB
      simp only [Int.natAbs_neg] at HAB
      have a1:decide (((t0).natAbs:Int) > 1099511627776)=false:=decide_eq_false (by omega)
      have a2:decide (1099511627776<((t0).natAbs:Int))=false:=decide_eq_false (by omega)
      have a3:decide (1099511627776<(t0).natAbs)=false:=decide_eq_false (by omega)
      clear HTS ht0
      go_wp2_with (go_at_call 151; refine (HAB.out _).mono ?_; rintro e w8 ⟨rfl,rfl⟩)
      go_ret2
      exact ⟨by rw [HV.out]; rfl,HBW.out⟩
     ·have hw0:IntKind.i64.wrap (1 - t0)=1 - t0:=by rw [IntKind.wrap_i64]; omega
      by_cases hbig:1099511627776<(1 - t0).natAbs
      ·have HV:Hid (valE bs (Ex.mk 3 2 n v xs)=.er 14):=Lib.hid (by rw [HTS.out]; exact (by simp only [capA]; rw [if_pos hbig]:capA (.ok (1 - t0))=.er 14))
       have HAB:=abs_hid (1 - t0) (by omega)
       unfold RetP at HAB
       have a1:decide (((1 - t0).natAbs:Int) > 1099511627776)=true:=decide_eq_true (by omega)
       have a2:decide (1099511627776<((1 - t0).natAbs:Int))=true:=decide_eq_true (by omega)
       have a3:decide (1099511627776<(1 - t0).natAbs)=true:=decide_eq_true (by omega)
       clear HTS ht0 hbig
       go_wp2_with (go_at_call 151; refine (HAB.out _).mono ?_; rintro e w8 ⟨rfl,rfl⟩)
       go_ret2
       exact ⟨by rw [HV.out]; rfl,HBW.out⟩
      ·have HV:Hid (valE bs (Ex.mk 3 2 n v xs)=.ok (1 - t0)):=Lib.hid (by rw [HTS.out]; exact (by simp only [capA]; rw [if_neg hbig]:capA (.ok (1 - t0))=.ok (1 - t0)))
       have HAB:=abs_hid (1 - t0) (by omega)
       unfold RetP at HAB
       have a1:decide (((1 - t0).natAbs:Int) > 1099511627776)=false:=decide_eq_false (by omega)
       have a2:decide (1099511627776<((1 - t0).natAbs:Int))=false:=decide_eq_false (by omega)
       have a3:decide (1099511627776<(1 - t0).natAbs)=false:=decide_eq_false (by omega)
       clear HTS ht0 hbig
       go_wp2_with (go_at_call 151; refine (HAB.out _).mono ?_; rintro e w8 ⟨rfl,rfl⟩)
       go_ret2
       exact ⟨by rw [HV.out]; rfl,HBW.out⟩
    ·have hbin:=HP.out.bin rfl
     simp only [Ex.op] at hbin
     have hl2:ts.length=2:=HLK.out
     obtain ⟨t0,t1,rfl⟩:∃ t0 t1,ts=[t0,t1]:=by
      match ts,hl2 with
      | [t0,t1],_=>exact ⟨t0,t1,rfl⟩
     obtain ⟨g,gc,rfl,-,hgl⟩:=hown.form (by simp)
     have c0:wr.cell? ⟨g,0,none⟩=some (.int .i64 t0):=by
      have:=hown.cells (g:=g) rfl 0 _ rfl
      simpa [Addr.add] using this
     have c1:wr.cell? ⟨g,1,none⟩=some (.int .i64 t1):=by
      have:=hown.cells (g:=g) rfl 1 _ rfl
      simpa [Addr.add] using this
     have hgw:g<wr.heap.size:=(World.ownsRow.lt hown g rfl).2
     have hs0:Sm t0:=by have:=HTB.out t0 (by simp); unfold Sm; omega
     have hs1:Sm t1:=by have:=HTB.out t1 (by simp); unfold Sm; omega
     have HS0:=Lib.hid hs0
     have HS1:=Lib.hid hs1
     have HT1:Hid (valE bs (Ex.mk 4 o n v xs)=capA (opV o t0 t1)):=Lib.hid (by rw [HTS.out]; rfl)
     have HOB:Hid (∀ n,opV o t0 t1=.ok n→n.natAbs≤4611686018427387904):=Lib.hid (fun n h=>opV_bd hs0 hs1 h)
     have HON:Hid (∀ f,opV o t0 t1=.er f→f≠0):=Lib.hid (fun f h=>opV_ne h)
     have HOPS:=Lib.hid (fun V=>ops_fun V o hbin)
     have hz0:w.heap.size<wr.heap.size:=hz3
     clear hown hl2 HTB hs0 hs1 hbin x2 x3 x4 HTS
     go_upto_region 12 with fail
     clear x0
     have y1:wr.drew.cell? ⟨w.heap.size,1,none⟩=some (.int .i64 o):=x1
     have d0:wr.drew.cell? ⟨g,0,none⟩=some (.int .i64 t0):=c0
     have d1:wr.drew.cell? ⟨g,1,none⟩=some (.int .i64 t1):=c1
     have hbe:Below w.heap.size w wr.drew:=⟨HBW.out.os,HBW.out.tape,HBW.out.output,HBW.out.size,HBW.out.block⟩
     refine wp_region_held_drew (S:=fun w'=>w'.cell? ⟨w.heap.size,1,none⟩=some (.int .i64 o)∧w'.cell? ⟨g,0,none⟩=some (.int .i64 t0)∧w'.cell? ⟨g,1,none⟩=some (.int .i64 t1)) (by kernel_rfl) ⟨y1,d0,d1⟩ (fun hHeld=>?_)
     replace hz0:w.heap.size<wr.drew.heap.size:=hz0
     replace hgw:g<wr.drew.heap.size:=hgw
     clear x1 c0 c1
     have hfd:=op_field
     generalize wr.drew=we at y1 d0 d1 hz0 hgw hHeld hbe ⊢
     refine wpAnyH_take (i:=1) (v:=?_) rfl (by kernel_rfl) (by kernel_rfl) (by kernel_rfl) (fun _ _ _ h=>h) (Or.inl ⟨by kernel_rfl,?_⟩) (by assumption) ?_
     rotate_left
     ·intro w hSw; (try dsimp only at hSw); go_simp; with_reducible rfl
     try simp only [List.getElem_toArray,List.getElem_cons_succ,List.getElem_cons_zero,Act.put,List.setIfInBounds_toArray,List.set_cons_zero,List.set_cons_succ]
     refine wpAnyH_take (i:=2) (v:=?_) rfl (by kernel_rfl) (by kernel_rfl) (by kernel_rfl) (fun _ _ _ h=>h) (Or.inl ⟨by kernel_rfl,?_⟩) (by assumption) ?_
     rotate_left
     ·intro w hSw; (try dsimp only at hSw); go_simp; with_reducible rfl
     try simp only [List.getElem_toArray,List.getElem_cons_succ,List.getElem_cons_zero,Act.put,List.setIfInBounds_toArray,List.set_cons_zero,List.set_cons_succ]
     refine wpAnyH_take (i:=5) (v:=?_) rfl (by kernel_rfl) (by kernel_rfl) (by kernel_rfl) (fun _ _ _ h=>h) (Or.inl ⟨by kernel_rfl,?_⟩) (by assumption) ?_
     rotate_left
     ·intro w hSw; (try dsimp only at hSw); go_simp; with_reducible rfl
     try simp only [List.getElem_toArray,List.getElem_cons_succ,List.getElem_cons_zero,Act.put,List.setIfInBounds_toArray,List.set_cons_zero,List.set_cons_succ]
     refine wpAnyH_take (i:=6) (v:=?_) rfl (by kernel_rfl) (by kernel_rfl) (by kernel_rfl) (fun _ _ _ h=>h) (Or.inl ⟨by kernel_rfl,?_⟩) (by assumption) ?_
     rotate_left
     ·intro w hSw; (try dsimp only at hSw); go_simp; with_reducible rfl
     try simp only [List.getElem_toArray,List.getElem_cons_succ,List.getElem_cons_zero,Act.put,List.setIfInBounds_toArray,List.set_cons_zero,List.set_cons_succ]
     refine wpAnyH_take (i:=7) (v:=?_) rfl (by kernel_rfl) (by kernel_rfl) (by kernel_rfl) (fun _ _ _ h=>h) (Or.inl ⟨by kernel_rfl,?_⟩) (by assumption) ?_
     rotate_left
     ·intro w hSw; (try dsimp only at hSw); go_simp; with_reducible rfl
     try simp only [List.getElem_toArray,List.getElem_cons_succ,List.getElem_cons_zero,Act.put,List.setIfInBounds_toArray,List.set_cons_zero,List.set_cons_succ]
     refine wpAnyH_take (i:=8) (v:=?_) rfl (by kernel_rfl) (by kernel_rfl) (by kernel_rfl) (fun _ _ _ h=>h) (Or.inl ⟨by kernel_rfl,?_⟩) (by assumption) ?_
     rotate_left
     ·intro w hSw; (try dsimp only at hSw); go_simp; with_reducible rfl
     try simp only [List.getElem_toArray,List.getElem_cons_succ,List.getElem_cons_zero,Act.put,List.setIfInBounds_toArray,List.set_cons_zero,List.set_cons_succ]
     refine wpAnyH_take (i:=9) (v:=?_) rfl (by kernel_rfl) (by kernel_rfl) (by kernel_rfl) (fun _ _ _ h=>h) (Or.inl ⟨by kernel_rfl,?_⟩) (by assumption) ?_
     rotate_left
     ·intro w hSw; (try dsimp only at hSw); go_simp; with_reducible rfl
     try simp only [List.getElem_toArray,List.getElem_cons_succ,List.getElem_cons_zero,Act.put,List.setIfInBounds_toArray,List.set_cons_zero,List.set_cons_succ]
     refine wpAnyH_take (i:=10) (v:=?_) rfl (by kernel_rfl) (by kernel_rfl) (by kernel_rfl) (fun _ _ _ h=>h) (Or.inl ⟨by kernel_rfl,?_⟩) (by assumption) ?_
     rotate_left
     ·intro w hSw; (try dsimp only at hSw); go_simp; with_reducible rfl
     try simp only [List.getElem_toArray,List.getElem_cons_succ,List.getElem_cons_zero,Act.put,List.setIfInBounds_toArray,List.set_cons_zero,List.set_cons_succ]
     refine wpAnyH_ready (rs:=[0]) (by kernel_rfl) (by simp) ?_
     refine AllReadyH.cons rfl (fun K hK=>?_) AllReadyH.nil
     go_simp
     refine (HOPS.out _).mono ?_
     rintro e W5 ⟨M5,s5,p5,F5,c5,rfl,hb5,hlk,eg,hF⟩
     try dsimp only
     refine hK.out _ _ ?_ (fun hHeld=>?_)
     ·exact ⟨(hb5.cell (p:=⟨w.heap.size,1,none⟩) hz0).trans y1,(hb5.cell (p:=⟨g,0,none⟩) hgw).trans d0,(hb5.cell (p:=⟨g,1,none⟩) hgw).trans d1⟩
     clear hK K
     try simp only [List.getElem_toArray,List.getElem_cons_succ,List.getElem_cons_zero,Act.put,List.setIfInBounds_toArray,List.set_cons_zero,List.set_cons_succ]
     refine wpAnyH_ready (rs:=[3]) (by kernel_rfl) (by simp) ?_
     refine AllReadyH.cons rfl (fun K hK=>?_) AllReadyH.nil
     go_simp
     refine hK.out _ _ ?_ (fun hHeld=>?_)
     ·exact hHeld
     clear hK K
     try simp only [List.getElem_toArray,List.getElem_cons_succ,List.getElem_cons_zero,Act.put,List.setIfInBounds_toArray,List.set_cons_zero,List.set_cons_succ]
     refine wpAnyH_take (i:=4) (v:=?_) rfl (by kernel_rfl) (by kernel_rfl) (by kernel_rfl) (fun _ _ _ h=>h) (Or.inl ⟨by kernel_rfl,?_⟩) (by assumption) ?_
     rotate_left
     ·intro w hSw; (try dsimp only at hSw); go_simp; with_reducible rfl
     try simp only [List.getElem_toArray,List.getElem_cons_succ,List.getElem_cons_zero,Act.put,List.setIfInBounds_toArray,List.set_cons_zero,List.set_cons_succ]
     refine wpAnyH_ready (rs:=[11]) (by kernel_rfl) (by simp) ?_
     refine AllReadyH.cons rfl (fun K hK=>?_) AllReadyH.nil
     go_simp
     refine (hF.out t0 t1 HS0.out HS1.out).mono ?_
     rintro e W6 ⟨rfl,hb6⟩
     try dsimp only
     refine hK.out _ _ ?_ (fun hHeld=>?_)
     ·exact ⟨(hb6.cell (p:=⟨w.heap.size,1,none⟩) (Nat.lt_of_lt_of_le hz0 hb5.size)).trans ((hb5.cell (p:=⟨w.heap.size,1,none⟩) hz0).trans y1),(hb6.cell (p:=⟨g,0,none⟩) (Nat.lt_of_lt_of_le hgw hb5.size)).trans ((hb5.cell (p:=⟨g,0,none⟩) hgw).trans d0),(hb6.cell (p:=⟨g,1,none⟩) (Nat.lt_of_lt_of_le hgw hb5.size)).trans ((hb5.cell (p:=⟨g,1,none⟩) hgw).trans d1)⟩
     clear hK K
     try simp only [List.getElem_toArray,List.getElem_cons_succ,List.getElem_cons_zero,Act.put,List.setIfInBounds_toArray,List.set_cons_zero,List.set_cons_succ]
     refine wpAnyH_take (i:=12) (v:=?_) rfl (by kernel_rfl) (by kernel_rfl) (by kernel_rfl) (fun _ _ _ h=>h) (Or.inl ⟨by kernel_rfl,?_⟩) (by assumption) ?_
     rotate_left
     ·intro w hSw; (try dsimp only at hSw); go_simp; with_reducible rfl
     try simp only [List.getElem_toArray,List.getElem_cons_succ,List.getElem_cons_zero,Act.put,List.setIfInBounds_toArray,List.set_cons_zero,List.set_cons_succ]
     refine wpAnyH_take (i:=13) (v:=?_) rfl (by kernel_rfl) (by kernel_rfl) (by kernel_rfl) (fun _ _ _ h=>h) (Or.inl ⟨by kernel_rfl,?_⟩) (by assumption) ?_
     rotate_left
     ·intro w hSw; (try dsimp only at hSw); go_simp; with_reducible rfl
     try simp only [List.getElem_toArray,List.getElem_cons_succ,List.getElem_cons_zero,Act.put,List.setIfInBounds_toArray,List.set_cons_zero,List.set_cons_succ]
     refine wpAnyH_take (i:=14) (v:=?_) rfl (by kernel_rfl) (by kernel_rfl) (by kernel_rfl) (fun _ _ _ h=>h) (Or.inl ⟨by kernel_rfl,?_⟩) (by assumption) ?_
     rotate_left
     ·intro w hSw; (try dsimp only at hSw); go_simp; with_reducible rfl
     try simp only [List.getElem_toArray,List.getElem_cons_succ,List.getElem_cons_zero,Act.put,List.setIfInBounds_toArray,List.set_cons_zero,List.set_cons_succ]
     refine wpAnyH_ready (rs:=[15]) (by kernel_rfl) (by simp) ?_
     refine AllReadyH.cons rfl (fun K hK=>?_) AllReadyH.nil
     go_simp
     refine hK.out _ _ ?_ (fun hHeld=>?_)
     ·exact hHeld
     clear hK K
     try simp only [List.getElem_toArray,List.getElem_cons_succ,List.getElem_cons_zero,Act.put,List.setIfInBounds_toArray,List.set_cons_zero,List.set_cons_succ]
     refine wpAnyH_ready (rs:=[16]) (by kernel_rfl) (by simp) ?_
     refine AllReadyH.cons rfl (fun K hK=>?_) AllReadyH.nil
     go_simp
     refine hK.out _ _ ?_ (fun hHeld=>?_)
     ·exact hHeld
     clear hK K
     try simp only [List.getElem_toArray,List.getElem_cons_succ,List.getElem_cons_zero,Act.put,List.setIfInBounds_toArray,List.set_cons_zero,List.set_cons_succ]
     refine wpAnyH_done (by kernel_rfl) ?_ _
     try dsimp only [Exit.then]
     have HB7:=Lib.hid ((hbe.trans (hb5.mono hbe.size)).trans (hb6.mono (Nat.le_trans hbe.size hb5.size)))
     clear hb5 hb6 y1 d0 d1 hbe hlk eg hF hHeld
     cases hop:opV o t0 t1 with
     | er f=>
      have hf0:=HON.out f hop
      have e1:((f:Int) == 0)=false:=by simpa using hf0
      have e2:((f:Int) != 0)=true:=by simpa using hf0
      have e3:(f == 0)=false:=by simpa using hf0
      have e4:(f != 0)=true:=by simpa using hf0
      have HV:Hid (valE bs (Ex.mk 4 o n v xs)=.er f):=Lib.hid (by rw [HT1.out,hop]; rfl)
      have HOP:=Lib.hid hop
      simp only [Ans.n,Ans.f]
      clear hf0 hop
      go_wp2_with fail
      go_ret2
      exact ⟨by rw [HV.out]; rfl,HB7.out⟩
     | ok m=>
      have hmb:=HOB.out m hop
      simp only [Ans.n,Ans.f]
      by_cases hbig:1099511627776<m.natAbs
      ·have HV:Hid (valE bs (Ex.mk 4 o n v xs)=.er 14):=Lib.hid (by rw [HT1.out,hop]; simp only [capA]; rw [if_pos hbig])
       have HAB:=abs_hid (m) (by omega)
       unfold RetP at HAB
       have a1:decide (((m).natAbs:Int) > 1099511627776)=true:=decide_eq_true (by omega)
       have a2:decide (1099511627776<((m).natAbs:Int))=true:=decide_eq_true (by omega)
       have a3:decide (1099511627776<(m).natAbs)=true:=decide_eq_true (by omega)
       clear hmb hbig hop
       go_wp2_with (go_at_call 151; refine (HAB.out _).mono ?_; rintro e w8 ⟨rfl,rfl⟩)
       go_ret2
       exact ⟨by rw [HV.out]; rfl,HB7.out⟩
      ·have HV:Hid (valE bs (Ex.mk 4 o n v xs)=.ok m):=Lib.hid (by rw [HT1.out,hop]; simp only [capA]; rw [if_neg hbig])
       have HAB:=abs_hid (m) (by omega)
       unfold RetP at HAB
       have a1:decide (((m).natAbs:Int) > 1099511627776)=false:=decide_eq_false (by omega)
       have a2:decide (1099511627776<((m).natAbs:Int))=false:=decide_eq_false (by omega)
       have a3:decide (1099511627776<(m).natAbs)=false:=decide_eq_false (by omega)
       clear hmb hbig hop
       go_wp2_with (go_at_call 151; refine (HAB.out _).mono ?_; rintro e w8 ⟨rfl,rfl⟩)
       go_ret2
       exact ⟨by rw [HV.out]; rfl,HB7.out⟩
end Go.Proofs.YtmbffkemfepekaaGreatDoor

namespace Go.Proofs.YtmbffkemfepekaaGreatDoor
open Go.RowKit Go.Sort
/-- Valid bindings. -/
structure BdOk (l:List Bd):Prop where
 len:l.length≤64
 nm:∀ (i:Nat) (h:i<l.length),nmB l[i].name=true
 inc:∀ (i:Nat) (h:i+1<l.length),Op.bytesLess l[i].name.toList l[i+1].name.toList=true
 ty:∀ (i:Nat) (h:i<l.length),(l[i].ty=1∧-1099511627776≤l[i].val∧l[i].val≤1099511627776)∨(l[i].ty=2∧0≤l[i].val∧l[i].val≤1)
theorem nm_size {n:ByteArray} (h:nmB n=true):n.size≤9223372036854775807:=by
 unfold nmB nmL at h
 simp only [Bool.and_eq_true,decide_eq_true_eq] at h
 have:n.size=n.data.toList.length:=by rw [Array.length_toList]; rfl
 omega
set_option maxRecDepth 100000 in
set_option maxHeartbeats 3200000 in
theorem bound_any (bs:List Bd) (V:BdOk bs) (A:Option Addr) (c B:Nat) (w:World) (h:RdB w B A bs) (hB:B≤w.heap.size) :
  Calls Tryz.prog 56 #[.slice A bs.length c] w (Ret (.bool true) w):=by
 have hl64:=V.len
 have H:=Lib.hid h
 have HV:=Lib.hid V
 have hl64i:(bs.length:Int)≤64:=by omega
 unfold Ret
 clear h V
 go_enter Tryz.func56,Tryz.ntmps56
 go_wp2_with fail
 go_loopw [2,9] (fun r i wr=>r=.bool false∧∃ j:Nat,i=.int .i64 (j:Nat)∧j≤bs.length∧Below w.heap.size w wr) (fun _ i _=>bs.length - (intOf i).toNat)
 case atStart=>exact ⟨rfl,0,rfl,Nat.zero_le _,Below.refl _ _⟩
 case round=>
  obtain ⟨rfl,j,rfl,hj,hb⟩:=hrel
  have hj0:(0:Int)≤(j:Int):=by omega
  have hwr1:IntKind.i64.wrap ((j:Int)+1)=(j:Int)+1:=by rw [IntKind.wrap_i64]; omega
  by_cases hlt:j<bs.length
  ·have hd1:decide ((j:Int)<(bs.length:Int))=true:=decide_eq_true (by omega)
   have hd2:decide (j<bs.length)=true:=decide_eq_true hlt
   have hjl:(j:Int)<(bs.length:Int):=by omega
   have hR:RdB wr B A bs:=Rd.below' H.out hb hB
   have HPREV:Hid (0<j→∃ b off:Nat,A=some ⟨b,off,none⟩∧wr.cell? ⟨b,off+(j - 1) * 3,none⟩=some (.string (bs[j - 1]'(by omega)).name)):=Lib.hid (fun h0=>by
    obtain ⟨b,off,e,_,y,-⟩:=hR.at_ (k:=j - 1) (by omega)
    exact ⟨b,off,e,y⟩)
   obtain ⟨b,off,rfl,hbB,y0,y1,y2⟩:=hR.at_ hlt
   have hO:=one_new wr #[.string bs[j].name,.int .i64 bs[j].ty,.int .i64 bs[j].val] 89
   have HNM:=Lib.hid (HV.out.nm j hlt)
   have HTY:=Lib.hid (HV.out.ty j hlt)
   have HINC:Hid (∀ (h0:0<j),Op.bytesLess (bs[j - 1]'(by omega)).name.toList bs[j].name.toList=true):=Lib.hid (fun h0=>by
    have:=HV.out.inc (j - 1) (by omega)
    simpa [show j - 1+1=j from by omega] using this)
   generalize bs[j].name=nm at y0 hO HNM HINC
   generalize bs[j].ty=ty at y1 hO HTY
   generalize bs[j].val=vl at y2 hO HTY
   have HPREV2:Hid (∀ p:ByteArray,p=p):=Lib.hid (fun _=>rfl)
   clear hR HPREV2
   have HB:=Lib.hid hb
   clear hb
   go_upto_region 4 with fail
   generalize wr.alloc _=w4 at hO ⊢
   obtain ⟨x0,x1,x2⟩:=bx3 hO.fst
   have HIN:Hid (∀ d os,Calls Tryz.prog 104 #[.string nm] (grow (redrawn w4 d) os) (Ret (.bool true) (grow (redrawn w4 d) os))):=Lib.hid (fun d os=>by
    have:=isName_any nm (nm_size HNM.out) (grow (redrawn w4 d) os)
    rwa [HNM.out] at this)
   unfold Ret at HIN
   have q0:=fun d os=>cell_regrown (w:=w4) x0 d os
   have q1:=fun d os=>cell_regrown (w:=w4) x1 d os
   have q2:=fun d os=>cell_regrown (w:=w4) x2 d os
   have HBW:Hid (Below w.heap.size w w4):=Lib.hid (HB.out.trans (hO.below.mono HB.out.size))
   by_cases hj1:0<j
   ·have hd3:decide ((j:Int) > 0)=true:=decide_eq_true (by omega)
    have hd4:decide (0<(j:Int))=true:=decide_eq_true (by omega)
    have hd5:decide (0<j)=true:=decide_eq_true hj1
    obtain ⟨b',off',e',yp⟩:=HPREV.out hj1
    injection e' with e'
    injection e' with e1 e2 _
    subst e1 e2
    have hless:=HINC.out hj1
    have ypw:=(hO.below.cell (p:=⟨b,off+(j - 1) * 3,none⟩) (World.block_lt_of_cell? _ _ yp)).trans yp
    generalize (bs[j - 1]'(by omega)).name=np at ypw hless
    have q3:=fun d os=>cell_regrown (w:=w4) ypw d os
    have hs1:IntKind.i64.wrap ((j:Int) - 1)=(j:Int) - 1:=by rw [IntKind.wrap_i64]; omega
    have hs2:(0:Int)≤(j:Int) - 1:=by omega
    have hs3:((j:Int) - 1).toNat=j - 1:=by omega
    have hs4:(j:Int) - 1<(bs.length:Int):=by omega
    clear yp ypw y0 y1 y2 hO HPREV HINC HNM
    rcases HTY.out with ⟨rfl,hv1,hv2⟩ | ⟨rfl,hv1,hv2⟩
    ·have t1:decide (vl < -1099511627776)=false:=decide_eq_false (by omega)
     have t2:decide (1099511627776<vl)=false:=decide_eq_false (by omega)
     have t3:decide (vl > 1099511627776)=false:=decide_eq_false (by omega)
     clear HTY
     go_upto_region 7 with fail
     refine wp_region_quiet_below (by kernel_rfl) (by kernel_rfl) ?_
     repeat (go_big_quiet_step (first | exact Calls.regrown_of (HIN.out _ _)))
     refine wpQuiet_nil ?_
     rintro _ ⟨pq,rfl⟩
     have hb9:=HBW.out.trans ((below_regrown w4 pq.d pq.os).mono HBW.out.size)
     generalize grow (redrawn w4 pq.d) pq.os=w9 at hb9 ⊢
     clear q0 q1 q2 q3
     go_wp2_with fail
     exact ⟨⟨rfl,j+1,by go_num,by omega,hb9⟩,by simp [intOf]; omega⟩
    ·have t1:decide (vl<0)=false:=decide_eq_false (by omega)
     have t2:decide (1<vl)=false:=decide_eq_false (by omega)
     have t3:decide (vl > 1)=false:=decide_eq_false (by omega)
     clear HTY
     go_upto_region 7 with fail
     refine wp_region_quiet_below (by kernel_rfl) (by kernel_rfl) ?_
     repeat (go_big_quiet_step (first | exact Calls.regrown_of (HIN.out _ _)))
     refine wpQuiet_nil ?_
     rintro _ ⟨pq,rfl⟩
     have hb9:=HBW.out.trans ((below_regrown w4 pq.d pq.os).mono HBW.out.size)
     generalize grow (redrawn w4 pq.d) pq.os=w9 at hb9 ⊢
     clear q0 q1 q2 q3
     go_wp2_with fail
     exact ⟨⟨rfl,j+1,by go_num,by omega,hb9⟩,by simp [intOf]; omega⟩
   ·obtain rfl:j=0:=by omega
    clear y0 y1 y2 hO HPREV HINC HNM hj1
    rcases HTY.out with ⟨rfl,hv1,hv2⟩ | ⟨rfl,hv1,hv2⟩
    ·have t1:decide (vl < -1099511627776)=false:=decide_eq_false (by omega)
     have t2:decide (1099511627776<vl)=false:=decide_eq_false (by omega)
     have t3:decide (vl > 1099511627776)=false:=decide_eq_false (by omega)
     clear HTY
     go_upto_region 7 with fail
     refine wp_region_quiet_below (by kernel_rfl) (by kernel_rfl) ?_
     repeat (go_big_quiet_step (first | exact Calls.regrown_of (HIN.out _ _)))
     refine wpQuiet_nil ?_
     rintro _ ⟨pq,rfl⟩
     have hb9:=HBW.out.trans ((below_regrown w4 pq.d pq.os).mono HBW.out.size)
     generalize grow (redrawn w4 pq.d) pq.os=w9 at hb9 ⊢
     clear q0 q1 q2
     go_wp2_with fail
     exact ⟨⟨rfl,0+1,by first | rfl | go_num,by omega,hb9⟩,by simp [intOf]; omega⟩
    ·have t1:decide (vl<0)=false:=decide_eq_false (by omega)
     have t2:decide (1<vl)=false:=decide_eq_false (by omega)
     have t3:decide (vl > 1)=false:=decide_eq_false (by omega)
     clear HTY
     go_upto_region 7 with fail
     refine wp_region_quiet_below (by kernel_rfl) (by kernel_rfl) ?_
     repeat (go_big_quiet_step (first | exact Calls.regrown_of (HIN.out _ _)))
     refine wpQuiet_nil ?_
     rintro _ ⟨pq,rfl⟩
     have hb9:=HBW.out.trans ((below_regrown w4 pq.d pq.os).mono HBW.out.size)
     generalize grow (redrawn w4 pq.d) pq.os=w9 at hb9 ⊢
     clear q0 q1 q2
     go_wp2_with fail
     exact ⟨⟨rfl,0+1,by first | rfl | go_num,by omega,hb9⟩,by simp [intOf]; omega⟩
  ·have hd1:decide ((j:Int)<(bs.length:Int))=false:=decide_eq_false (by omega)
   have hd2:decide (j<bs.length)=false:=decide_eq_false hlt
   go_wp2_with fail
   go_ret
   exact ⟨rfl,hb⟩
end Go.Proofs.YtmbffkemfepekaaGreatDoor
