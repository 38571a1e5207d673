/- nurserylaw55.awake, walked: it returns true. Conditions: the library's tables and its box stand as laid. -/
import Derived.Test.YtmbffkemfepekaaGreatDoorPtAwM
import Derived.Test.YtmbffkemfepekaaGreatDoorPtOrd
import Derived.Deep.Cut
import Derived.Deep.DeepCutAuto
import Derived.Deep.RegionHeld3
import Derived.Test.YtmbffkemfepekaaGreatDoorPtLx2
import Derived.Test.YtmbffkemfepekaaGreatDoorPtLx5
import Derived.Test.YtmbffkemfepekaaGreatDoorPtRtM
import Derived.Test.YtmbffkemfepekaaGreatDoorPtRdm
import Derived.Laws.IdiomStrings
namespace Go.Proofs.YtmbffkemfepekaaGreatDoor
open Go.RowKit
def awLs:List At:=[⟨3,0,awB 1 0 3⟩,⟨2,0,awB 1 1 2⟩,⟨1,0,awB 0 0 1⟩,⟨4,0,awB 5 2 4⟩]
theorem aw_allFit:allFit awLs=true:=by kernel_rfl
theorem aw_rk:(fun i=>rankR awRs (awLs.getD i ⟨0,0,[]⟩).vals)=awRk:=by
 funext i
 match i with
 | 0 | 1 | 2 | 3=>rfl
 | i+4=>rfl
/-- Rows of bindings that stand. -/
def AwRows (W:World) (l:List (Nat × List Bd)):Prop:=∀ p∈l,p.1<W.heap.size∧AwRow W p.1 p.2
theorem AwRows.next {W W':World} {l:List (Nat × List Bd)} (h:AwRows W l) (hb:Below W.heap.size W W'):AwRows W' l:=fun p hp=>⟨Nat.lt_of_lt_of_le (h p hp).1 hb.size,(hb.block _ (h p hp).1).trans (h p hp).2⟩
theorem AwRows.put {W:World} {l:List (Nat × List Bd)} (h:AwRows W l) {K:Nat} {bs:List Bd} (hk:AwRow W K bs):AwRows W ((K,bs)::l):=fun p hp=>by
 rcases List.mem_cons.1 hp with rfl | hp
 ·exact ⟨(Array.getElem?_eq_some_iff.1 hk).1,hk⟩
 ·exact h p hp
theorem AwRow.rd {W:World} {K:Nat} {bs:List Bd} (h:AwRow W K bs) (B:Nat) (hB:K<B):RdB W B (some ⟨K,0,none⟩) bs:=by
 refine ⟨flat_len (f:=Bd.cells) (s:=3) (fun _=>rfl) _,.inr ⟨K,0,rfl,hB,fun j u hu=>?_⟩⟩
 have:=cell_of_row W K j _ _ _ h
 rw [Nat.zero_add,this]
 simpa using hu
/-- The four attributes lie in memory. -/
theorem aw_lies {W:World} {K1 K2 K3 K4:Nat} {l:List (Nat × List Bd)} (h:AwRows W ((K4,awB 5 2 4)::(K3,awB 0 0 1)::(K2,awB 1 1 2)::(K1,awB 1 0 3)::l)) :
  LiesA (W.alloc (.cells #[.int .i64 3,.int .i64 0,.slice (some ⟨K1,0,none⟩) 11 11,.int .i64 2,.int .i64 0,.slice (some ⟨K2,0,none⟩) 11 11,.int .i64 1,.int .i64 0,.slice (some ⟨K3,0,none⟩) 11 11,.int .i64 4,.int .i64 0,.slice (some ⟨K4,0,none⟩) 11 11] 48)) (W.heap.size+1) (some ⟨W.heap.size,0,none⟩) 4 awLs:=by
 have hb:=below_alloc W (.cells #[.int .i64 3,.int .i64 0,.slice (some ⟨K1,0,none⟩) 11 11,.int .i64 2,.int .i64 0,.slice (some ⟨K2,0,none⟩) 11 11,.int .i64 1,.int .i64 0,.slice (some ⟨K3,0,none⟩) 11 11,.int .i64 4,.int .i64 0,.slice (some ⟨K4,0,none⟩) 11 11] 48)
 have hx:=bx_new W #[.int .i64 3,.int .i64 0,.slice (some ⟨K1,0,none⟩) 11 11,.int .i64 2,.int .i64 0,.slice (some ⟨K2,0,none⟩) 11 11,.int .i64 1,.int .i64 0,.slice (some ⟨K3,0,none⟩) 11 11,.int .i64 4,.int .i64 0,.slice (some ⟨K4,0,none⟩) 11 11] 48
 have h':=h.next hb
 have m4:=h' (K4,awB 5 2 4) (by simp)
 have m3:=h' (K3,awB 0 0 1) (by simp)
 have m2:=h' (K2,awB 1 1 2) (by simp)
 have m1:=h' (K1,awB 1 0 3) (by simp)
 generalize W.alloc _=W' at *
 have n4:=(h (K4,awB 5 2 4) (by simp)).1
 have n3:=(h (K3,awB 0 0 1) (by simp)).1
 have n2:=(h (K2,awB 1 1 2) (by simp)).1
 have n1:=(h (K1,awB 1 0 3) (by simp)).1
 refine ⟨by decide,fun i hi=>?_⟩
 match i,hi with
 | 0,_=>exact ⟨show 11≤9223372036854775807 from by decide,W.heap.size,0,some ⟨K1,0,none⟩,11,rfl,Nat.lt_succ_self _,m1.2.rd _ (by omega),hx 0 _ rfl,hx 1 _ rfl,hx 2 _ rfl⟩
 | 1,_=>exact ⟨show 11≤9223372036854775807 from by decide,W.heap.size,0,some ⟨K2,0,none⟩,11,rfl,Nat.lt_succ_self _,m2.2.rd _ (by omega),hx 3 _ rfl,hx 4 _ rfl,hx 5 _ rfl⟩
 | 2,_=>exact ⟨show 11≤9223372036854775807 from by decide,W.heap.size,0,some ⟨K3,0,none⟩,11,rfl,Nat.lt_succ_self _,m3.2.rd _ (by omega),hx 6 _ rfl,hx 7 _ rfl,hx 8 _ rfl⟩
 | 3,_=>exact ⟨show 11≤9223372036854775807 from by decide,W.heap.size,0,some ⟨K4,0,none⟩,11,rfl,Nat.lt_succ_self _,m4.2.rd _ (by omega),hx 9 _ rfl,hx 10 _ rfl,hx 11 _ rfl⟩
 | i+4,hi=>exact absurd hi (by show ¬ i+4<4; omega)
/-- What Order gives for them. -/
theorem aw_order (W W4:World) (A:Option Addr) (c:Nat) {B:Nat} (hP:LiesP W B A c awRs) (hb:Below W.heap.size W W4) (hB:B≤W.heap.size) {K1 K2 K3 K4:Nat} {l:List (Nat × List Bd)} (h:AwRows W4 ((K4,awB 5 2 4)::(K3,awB 0 0 1)::(K2,awB 1 1 2)::(K1,awB 1 0 3)::l)) :
  let W5:=W4.alloc (.cells #[.int .i64 3,.int .i64 0,.slice (some ⟨K1,0,none⟩) 11 11,.int .i64 2,.int .i64 0,.slice (some ⟨K2,0,none⟩) 11 11,.int .i64 1,.int .i64 0,.slice (some ⟨K3,0,none⟩) 11 11,.int .i64 4,.int .i64 0,.slice (some ⟨K4,0,none⟩) 11 11] 48)
  Calls Tryz.prog 14 #[.agg #[.slice A 2 c],.slice (some ⟨W4.heap.size,0,none⟩) 4 4] W5 (fun e W'=>∃ (A':Option Addr) (c':Nat),e=.returned (.tuple #[.slice A' 4 c',.int .i64 0])∧Below W5.heap.size W5 W'∧4≤c'∧Rd W' W'.heap.size 1 A' 4 ([3,1,2,0].map natV)):=by
 intro W5
 have hb5:Below W.heap.size W W5:=hb.trans ((below_alloc _ _).mono hb.size)
 have hs5:W5.heap.size=W4.heap.size+1:=by simp [W5]
 have:=order_any A c (W4.heap.size+1) awRs (some ⟨W4.heap.size,0,none⟩) 4 awLs W5 ((hP.below' hb5 hB).more (by have:=hb.size; omega)) (by omega) (aw_lies h) (by decide)
 refine this.mono ?_
 rintro e W' ⟨hbb,h1 | h1 | h1⟩
 ·exact absurd aw_valid h1.1
 ·rw [aw_allFit] at h1; cases h1.2.1
 ·obtain ⟨-,-,A',c',l',rfl,hl,hi,hr⟩:=h1
  rw [aw_rk] at hi
  obtain rfl:=hi.unique aw_ord
  exact ⟨A',c',rfl,hbb,hl,hr⟩
set_option maxRecDepth 100000 in
set_option maxHeartbeats 6400000 in
theorem awake_any (w:World) (hen:Env w.heap.size w):Calls Tryz.prog 5 #[] w (Ret (.bool true) w):=by
 have HPA:=Lib.hid (parse_any awS (by decide) w hen)
 rw [aw_parse] at HPA
 unfold ParR Ret at *
 unfold awS at HPA
 have hen2:=Lib.hid hen
 clear hen
 go_enter Tryz.func5,Tryz.ntmps5
 go_upto_region 2 with (go_at_call 8; refine HPA.out.mono ?_; rintro e W1 ⟨hb1,A,c,rfl,hP⟩)
 have hx:(W1.alloc (.cells #[.slice A awRs.length c] 24)).cell? ⟨W1.heap.size,0,none⟩=some (.slice A 2 c):=bx_new W1 #[.slice A awRs.length c] 24 0 _ rfl
 have hb2:=below_alloc W1 (.cells #[.slice A awRs.length c] 24)
 have hz2:W1.heap.size<(W1.alloc (.cells #[.slice A awRs.length c] 24)).heap.size:=by simp
 generalize W1.alloc _=w2 at hx hb2 hz2 ⊢
 have HW2:=Lib.hid (hb1.trans (hb2.mono hb1.size))
 have HX:Hid (∀ W,Below w2.heap.size w2 W→W.cell? ⟨W1.heap.size,0,none⟩=some (.slice A 2 c)):=Lib.hid (fun W hW=>(hW.cell (p:=⟨W1.heap.size,0,none⟩) hz2).trans hx)
 have HOD:=Lib.hid (fun (W4:World) (hb:Below w2.heap.size w2 W4) (K1 K2 K3 K4:Nat) (l:List (Nat × List Bd)) h=>aw_order W1 W4 A c (K1:=K1) (K2:=K2) (K3:=K3) (K4:=K4) (l:=l) hP (hb2.trans (hb.mono hb2.size)) (Nat.le_refl _) h)
 have HPR:Hid (∀ W,Below w2.heap.size w2 W→Calls Tryz.prog 6 #[.agg #[.slice A 2 c]] W (Ret (.tuple #[.string ⟨awP.toArray⟩,.int .i64 0]) W)):=Lib.hid (fun W hW=>by
  have h1:=hb2.trans (hW.mono hb2.size)
  have h2:=HW2.out.trans (hW.mono HW2.out.size)
  have:=pprint_any A c W1.heap.size awRs W (hP.below' h1 (Nat.le_refl _)) h1.size (fun W' hW'=>hen2.out.tab W' (h2.trans (hW'.mono h2.size)))
  rwa [show pprV awRs=.tuple #[.string ⟨awP.toArray⟩,.int .i64 0] from by unfold pprV; rw [if_pos aw_valid,aw_print]] at this)
 have HAT:=Lib.hid (fun e h i W=>attrs_any e h i W)
 clear HPA hb1 hb2 hP
 go_cut [4,5] (fun r4 r5 wx=>r5=.int .i64 0∧∃ (A':Option Addr) (c':Nat),r4=.slice A' 4 c'∧Below w2.heap.size w2 wx∧4≤c'∧Rd wx wx.heap.size 1 A' 4 ([3,1,2,0].map natV))
 case first=>
  have hB:Below w2.heap.size w2 w2.drew:=below_drews _ _ 1
  have HR:Hid (AwRows w2.drew []):=Lib.hid (fun p hp=>by cases hp)
  have hzx:W1.heap.size<w2.drew.heap.size:=hz2
  go_region_held3 (fun w'=>w'.cell? ⟨W1.heap.size,0,none⟩=some (.slice A 2 c)) (first | assumption | exact (World.cell?_alloc_lt _ _ _ (by assumption)).trans (by assumption))
   (first
   | (go_at_call 15; refine (HAT.out _ _ _ _).mono ?_; rintro en W ⟨hb,K,rfl,-,hrow⟩; replace HR:=Lib.hid ((HR.out.next hb).put hrow); replace hB:=hB.trans (hb.mono hB.size); replace hzx:=Nat.lt_of_lt_of_le hzx hb.size; have hx:=HX.out _ hB; clear hrow hb)
   | (go_at_call 14; refine (HOD.out _ hB _ _ _ _ _ HR.out).mono ?_; rintro en W ⟨A',c',rfl,hb,hc,hr⟩; replace hB:=(hB.trans ((below_alloc _ _).mono hB.size)).trans (hb.mono (hB.trans ((below_alloc _ _).mono hB.size)).size); have hx:=HX.out _ hB))
  go_wp2_with fail
  go_meet
  exact ⟨rfl,A',c',rfl,hB,hc,hr⟩
 case rest=>
  obtain ⟨rfl,A',c',rfl,hBx,hc',hr⟩:=hcut
  have hx:=HX.out _ hBx
  obtain ⟨b,off,rfl,hb,hcell⟩:=Rd.addr hr (by decide)
  have HPR3:=Lib.hid (HPR.out _ hBx)
  have HW3:=Lib.hid (HW2.out.trans (hBx.mono HW2.out.size))
  unfold Ret awP at HPR3
  have HEQ:=Lib.hid (fun (W:World) (hW:Below wc.heap.size wc W)=>Tryz.slices_Equal_int b off 4 c' W.heap.size 0 4 4 [3,1,2,0] [3,1,2,0] (W.alloc (.cells #[.int .i64 3,.int .i64 1,.int .i64 2,.int .i64 0] 3)) (by decide) (by decide) (by decide) (by decide) (fun j hj=>by
   have h1:Below wc.heap.size wc (W.alloc (.cells #[.int .i64 3,.int .i64 1,.int .i64 2,.int .i64 0] 3)):=hW.trans ((below_alloc _ _).mono hW.size)
   refine (h1.cell (p:=⟨b,off+j,none⟩) hb).trans (hcell j _ ?_)
   match j,hj with
   | 0,_ | 1,_ | 2,_ | 3,_=>rfl
   | j+4,hj=>exact absurd hj (by show ¬ j+4<4; omega)) (fun j hj=>by
   have hx:=bx_new W #[.int .i64 3,.int .i64 1,.int .i64 2,.int .i64 0] 3
   match j,hj with
   | 0,_=>exact hx 0 _ rfl
   | 1,_=>exact hx 1 _ rfl
   | 2,_=>exact hx 2 _ rfl
   | 3,_=>exact hx 3 _ rfl
   | j+4,hj=>exact absurd hj (by show ¬ j+4<4; omega)))
  clear hr hcell hBx HPR HX HAT HOD HW2 hen2
  go_wp2_with (first
   | (go_at_call 6; refine HPR3.out.mono ?_; rintro e W4 ⟨rfl,hb4⟩)
   | (go_at_call 16; refine (HEQ.out _ hb4).mono ?_; rintro e W5 ⟨rfl,q,rfl⟩))
  go_ret
  exact ⟨rfl,HW3.out.trans ((hb4.trans (((below_alloc _ _).mono hb4.size).trans (below_drews _ _ q))).mono HW3.out.size)⟩
end Go.Proofs.YtmbffkemfepekaaGreatDoor

namespace Go.Proofs.YtmbffkemfepekaaGreatDoor
open Go.RowKit
set_option maxRecDepth 100000 in
theorem rltr_any (c:UInt8) (w:World):Calls Tryz.prog 83 #[.int .u8 (c.toNat:Nat)] w (RetP (.bool (letB c)) w):=by
 have HL:Hid (letB c=(decide (97≤c.toNat) && decide (c.toNat≤122))):=Lib.hid rfl
 generalize letB c=b at HL ⊢
 generalize c.toNat=n at HL ⊢
 unfold RetP
 by_cases h1:97≤n
 ·have e1:decide ((97:Int)≤(n:Int))=true:=decide_eq_true (by omega)
  have e1b:decide ((n:Int) ≥ (97:Int))=true:=decide_eq_true (by omega)
  have e2:decide (97≤n)=true:=decide_eq_true h1
  by_cases h2:n≤122
  ·have e3:decide ((n:Int)≤(122:Int))=true:=decide_eq_true (by omega)
   have e4:decide (n≤122)=true:=decide_eq_true h2
   have HV:Hid (b=true):=Lib.hid (by rw [HL.out,e2,e4]; rfl)
   clear h1 h2 HL
   go_enter Tryz.func83,Tryz.ntmps83
   go_wp2_with fail
   go_ret
   exact ⟨by rw [HV.out]; rfl,rfl⟩
  ·have e3:decide ((n:Int)≤(122:Int))=false:=decide_eq_false (by omega)
   have e4:decide (n≤122)=false:=decide_eq_false h2
   have HV:Hid (b=false):=Lib.hid (by rw [HL.out,e2,e4]; rfl)
   clear h1 h2 HL
   go_enter Tryz.func83,Tryz.ntmps83
   go_wp2_with fail
   go_ret
   exact ⟨by rw [HV.out]; rfl,rfl⟩
 ·have e1:decide ((97:Int)≤(n:Int))=false:=decide_eq_false (by omega)
  have e1b:decide ((n:Int) ≥ (97:Int))=false:=decide_eq_false (by omega)
  have e2:decide (97≤n)=false:=decide_eq_false h1
  have HV:Hid (b=false):=Lib.hid (by rw [HL.out,e2]; rfl)
  clear h1 HL
  go_enter Tryz.func83,Tryz.ntmps83
  go_wp2_with fail
  go_ret
  exact ⟨by rw [HV.out]; rfl,rfl⟩
set_option maxRecDepth 100000 in
theorem rdig_any (c:UInt8) (w:World):Calls Tryz.prog 85 #[.int .u8 (c.toNat:Nat)] w (RetP (.bool (digB c)) w):=by
 have HL:Hid (digB c=(decide (48≤c.toNat) && decide (c.toNat≤57))):=Lib.hid rfl
 generalize digB c=b at HL ⊢
 generalize c.toNat=n at HL ⊢
 unfold RetP
 by_cases h1:48≤n
 ·have e1:decide ((48:Int)≤(n:Int))=true:=decide_eq_true (by omega)
  have e1b:decide ((n:Int) ≥ (48:Int))=true:=decide_eq_true (by omega)
  have e2:decide (48≤n)=true:=decide_eq_true h1
  by_cases h2:n≤57
  ·have e3:decide ((n:Int)≤(57:Int))=true:=decide_eq_true (by omega)
   have e4:decide (n≤57)=true:=decide_eq_true h2
   have HV:Hid (b=true):=Lib.hid (by rw [HL.out,e2,e4]; rfl)
   clear h1 h2 HL
   go_enter Tryz.func85,Tryz.ntmps85
   go_wp2_with fail
   go_ret
   exact ⟨by rw [HV.out]; rfl,rfl⟩
  ·have e3:decide ((n:Int)≤(57:Int))=false:=decide_eq_false (by omega)
   have e4:decide (n≤57)=false:=decide_eq_false h2
   have HV:Hid (b=false):=Lib.hid (by rw [HL.out,e2,e4]; rfl)
   clear h1 h2 HL
   go_enter Tryz.func85,Tryz.ntmps85
   go_wp2_with fail
   go_ret
   exact ⟨by rw [HV.out]; rfl,rfl⟩
 ·have e1:decide ((48:Int)≤(n:Int))=false:=decide_eq_false (by omega)
  have e1b:decide ((n:Int) ≥ (48:Int))=false:=decide_eq_false (by omega)
  have e2:decide (48≤n)=false:=decide_eq_false h1
  have HV:Hid (b=false):=Lib.hid (by rw [HL.out,e2]; rfl)
  clear h1 HL
  go_enter Tryz.func85,Tryz.ntmps85
  go_wp2_with fail
  go_ret
  exact ⟨by rw [HV.out]; rfl,rfl⟩
set_option maxRecDepth 100000 in
theorem rin_any (c:UInt8) (w:World):Calls Tryz.prog 84 #[.int .u8 (c.toNat:Nat)] w (RetP (.bool (inB c)) w):=by
 have HI:Hid (inB c=(letB c || digB c || c.toNat == 95)):=Lib.hid rfl
 have HA:=Lib.hid (fun W=>rltr_any c W)
 have HB:=Lib.hid (fun W=>rdig_any c W)
 generalize inB c=b at HI ⊢
 generalize letB c=l at HI HA
 generalize digB c=d at HI HB
 generalize c.toNat=n at HI HA HB ⊢
 unfold RetP at HA HB ⊢
 cases l with
 | true=>
  have HV:Hid (b=true):=Lib.hid (by rw [HI.out]; rfl)
  clear HI
  go_enter Tryz.func84,Tryz.ntmps84
  go_wp2_with (go_at_call 83; refine (HA.out _).mono ?_; rintro e W5 ⟨rfl,hw⟩; obtain rfl:w=W5:=hw.symm)
  go_ret
  exact ⟨by rw [HV.out]; rfl,rfl⟩
 | false=>
  cases d with
  | true=>
   have HV:Hid (b=true):=Lib.hid (by rw [HI.out]; rfl)
   clear HI
   go_enter Tryz.func84,Tryz.ntmps84
   go_wp2_with (first | (go_at_call 83; refine (HA.out _).mono ?_; rintro e W5 ⟨rfl,hw⟩; obtain rfl:w=W5:=hw.symm) | (go_at_call 85; refine (HB.out _).mono ?_; rintro e W5 ⟨rfl,hw⟩; obtain rfl:w=W5:=hw.symm))
   go_ret
   exact ⟨by rw [HV.out]; rfl,rfl⟩
  | false=>
   by_cases h95:n=95
   ·have e1:((n:Int) == 95)=true:=by simpa using (by omega:(n:Int)=95)
    have e2:(n == 95)=true:=by simpa using h95
    have HV:Hid (b=true):=Lib.hid (by rw [HI.out,e2]; rfl)
    clear HI h95
    go_enter Tryz.func84,Tryz.ntmps84
    go_wp2_with (first | (go_at_call 83; refine (HA.out _).mono ?_; rintro e W5 ⟨rfl,hw⟩; obtain rfl:w=W5:=hw.symm) | (go_at_call 85; refine (HB.out _).mono ?_; rintro e W5 ⟨rfl,hw⟩; obtain rfl:w=W5:=hw.symm))
    go_ret
    exact ⟨by rw [HV.out]; rfl,rfl⟩
   ·have e1:((n:Int) == 95)=false:=by simpa using (by omega:¬ (n:Int)=95)
    have e2:(n == 95)=false:=by simpa using h95
    have HV:Hid (b=false):=Lib.hid (by rw [HI.out,e2]; rfl)
    clear HI h95
    go_enter Tryz.func84,Tryz.ntmps84
    go_wp2_with (first | (go_at_call 83; refine (HA.out _).mono ?_; rintro e W5 ⟨rfl,hw⟩; obtain rfl:w=W5:=hw.symm) | (go_at_call 85; refine (HB.out _).mono ?_; rintro e W5 ⟨rfl,hw⟩; obtain rfl:w=W5:=hw.symm))
    go_ret
    exact ⟨by rw [HV.out]; rfl,rfl⟩
/-- The value of digits, reckoned until it is too great. -/
def numG:List UInt8→Nat→Nat
 | [],n=>n
 | c::r,n=>if 1099511627776<n then n else numG r (10 * n+(c.toNat - 48))
theorem numG_stop (l:List UInt8) (n:Nat) (h:1099511627776<n):numG l n=n:=by
 cases l with
 | nil=>rfl
 | cons c r=>rw [numG,if_pos h]
theorem numG_fold:∀ (l:List UInt8) (n:Nat),(1099511627776<l.foldl (fun n c=>n * 10+(c.toNat - 48)) n↔1099511627776<numG l n)∧(numG l n≤1099511627776→numG l n=l.foldl (fun n c=>n * 10+(c.toNat - 48)) n)
 | [],n=>⟨Iff.rfl,fun _=>rfl⟩
 | c::r,n=>by
  rw [numG,List.foldl_cons]
  by_cases h:1099511627776<n
  ·rw [if_pos h]
   have hm:∀ (l:List UInt8) (n:Nat),1099511627776<n→1099511627776<l.foldl (fun n c=>n * 10+(c.toNat - 48)) n:=by
    intro l
    induction l with
    | nil=>intro n h; exact h
    | cons c r ih=>intro n h; rw [List.foldl_cons]; exact ih _ (by omega)
   exact ⟨⟨fun _=>h,fun _=>hm _ _ (by omega)⟩,fun h2=>by omega⟩
  ·rw [if_neg h,Nat.mul_comm 10 n]
   exact numG_fold r _
theorem numG_gt (l:List UInt8):1099511627776<numV l↔1099511627776<numG l 0:=(numG_fold l 0).1
theorem numG_eq (l:List UInt8) (h:¬ 1099511627776<numV l):numG l 0=numV l:=(numG_fold l 0).2 (by have:=numG_gt l; omega)
set_option maxRecDepth 100000 in
set_option maxHeartbeats 3200000 in
theorem rnum_any (tx:ByteArray) (hs:tx.size≤140737488355328) (hd:∀ (j:Nat) (h:j<tx.size),48≤(tx[j]'h).toNat∧(tx[j]'h).toNat≤57) (w:World) :
  Calls Tryz.prog 86 #[.string tx] w (RetP (.int .i64 (numG tx.data.toList 0:Nat)) w):=by
 have HD:=Lib.hid hd
 have hsz:tx.size=tx.data.size:=rfl
 have HS:=Lib.hid hs
 obtain ⟨R,hR⟩:∃ R,R=numG tx.data.toList 0:=⟨_,rfl⟩
 have HR:=Lib.hid hR
 rw [← hR]
 unfold RetP
 clear hR hd hsz
 go_enter Tryz.func86,Tryz.ntmps86
 go_wp2_with fail
 go_loopw [3,4] (fun nv iv wr=>wr=w∧∃ j n:Nat,iv=.int .i64 (j:Nat)∧nv=.int .i64 (n:Nat)∧j≤tx.size∧n≤10995116277776∧Hid (numG (tx.data.toList.drop j) n=R)) (fun _ iv _=>tx.size - (intOf iv).toNat)
 case atStart=>exact ⟨rfl,0,0,rfl,rfl,Nat.zero_le _,by omega,Lib.hid (by rw [HR.out]; rfl)⟩
 case round=>
  obtain ⟨rfl,j,n,rfl,rfl,hj,hn,HN⟩:=hrel
  have hj0:(0:Int)≤(j:Int):=by omega
  have hwr1:IntKind.i64.wrap ((j:Int)+1)=(j:Int)+1:=by rw [IntKind.wrap_i64]; have:=HS.out; omega
  by_cases hlt:j<tx.size
  ·have hjl:(j:Int)<(tx.size:Int):=by omega
   have hd1:decide ((j:Int)<(tx.size:Int))=true:=decide_eq_true (by omega)
   have hd2:decide (j<tx.size)=true:=decide_eq_true hlt
   by_cases hb:n≤1099511627776
   ·have hb1:decide ((n:Int)≤1099511627776)=true:=decide_eq_true (by omega)
    have hb2:decide (n≤1099511627776)=true:=decide_eq_true hb
    have hdg:=HD.out j hlt
    have HN2:Hid (numG (tx.data.toList.drop (j+1)) (10 * n+((tx[j]'hlt).toNat - 48))=R):=Lib.hid (by
     rw [← HN.out,run_at tx j hlt,numG,if_neg (by omega)])
    have hwu:((((tx[j]'hlt).toNat):Int) - 48) % 256=(((tx[j]'hlt).toNat):Int) - 48:=by omega
    have hw3:IntKind.i64.wrap ((((tx[j]'hlt).toNat):Int) - 48)=(((tx[j]'hlt).toNat):Int) - 48:=by rw [IntKind.wrap_i64]; omega
    have hw4:IntKind.i64.wrap (10 * (n:Int))=10 * (n:Int):=by rw [IntKind.wrap_i64]; omega
    have hw5:IntKind.i64.wrap (10 * (n:Int)+((((tx[j]'hlt).toNat):Int) - 48))=10 * (n:Int)+((((tx[j]'hlt).toNat):Int) - 48):=by rw [IntKind.wrap_i64]; omega
    have HE:Hid (10 * (n:Int)+((((tx[j]'hlt).toNat):Int) - 48)=((10 * n+((tx[j]'hlt).toNat - 48):Nat):Int)):=Lib.hid (by omega)
    go_wp2_with fail
    exact ⟨⟨by first | rfl | exact True.intro,j+1,_,by go_num,by rw [HE.out],by omega,by omega,HN2⟩,by simp [intOf]; omega⟩
   ·have hb1:decide ((n:Int)≤1099511627776)=false:=decide_eq_false (by omega)
    have hb2:decide (n≤1099511627776)=false:=decide_eq_false hb
    have HV:Hid (n=R):=Lib.hid (by rw [← HN.out,numG_stop _ _ (by omega)])
    go_wp2_with fail
    go_ret
    exact ⟨by rw [HV.out]; rfl,by first | rfl | exact True.intro⟩
  ·have hd1:decide ((j:Int)<(tx.size:Int))=false:=decide_eq_false (by omega)
   have hd2:decide (j<tx.size)=false:=decide_eq_false hlt
   have HV:Hid (n=R):=Lib.hid (by
    rw [← HN.out,List.drop_of_length_le (by rw [Array.length_toList]; show tx.size≤j; omega)]; rfl)
   go_wp2_with fail
   go_ret
   exact ⟨by rw [HV.out]; rfl,by first | rfl | exact True.intro⟩
end Go.Proofs.YtmbffkemfepekaaGreatDoor

namespace Go.Proofs.YtmbffkemfepekaaGreatDoor
open Go.RowKit
/-- The signs in the reference's order. -/
def sgL:List (List UInt8):=dblS++sglS.map fun c=>[c]
/-- How long the first sign is that a text begins with. -/
def sgG:List (List UInt8)→List UInt8→Nat
 | [],_=>0
 | g::r,l=>if l.take g.length=g then g.length else sgG r l
def sgN (l:List UInt8):Nat:=sgG sgL l
def sgRow:List Value:=sgL.map fun g=>.string ⟨g.toArray⟩
theorem sg_len:sgL.length=21:=rfl
theorem sgRow_at {j:Nat} (h:j<sgL.length):sgRow[j]? = some (.string ⟨sgL[j].toArray⟩):=by
 unfold sgRow
 rw [List.getElem?_map,List.getElem?_eq_getElem h]
 rfl
theorem sg_step {l:List UInt8} {j R:Nat} (h:j<sgL.length) (hR:sgG (sgL.drop j) l=R):(l.take sgL[j].length=sgL[j]→R=sgL[j].length)∧(¬ l.take sgL[j].length=sgL[j]→sgG (sgL.drop (j+1)) l=R):=by
 rw [List.drop_eq_getElem_cons h,sgG] at hR
 constructor
 ·intro h1; rw [if_pos h1] at hR; exact hR.symm
 ·intro h1; rw [if_neg h1] at hR; exact hR
theorem ext_take (s:ByteArray) (n:Nat):(s.extract 0 n).data.toList=s.data.toList.take n:=by
 rw [Lib.extract_data]; simp
theorem ba_list (a b:ByteArray):a.data.toList=b.data.toList↔a=b:=by
 constructor
 ·intro h
  cases a with
  | mk a=>
   cases b with
   | mk b=>simp only at h; rw [Array.toList_inj.1 h]
 ·intro h; rw [h]
theorem str_pre (s:ByteArray) (n:Nat) (h:n≤s.size) (W:World):(Instr.slice 9 (.string s) none (some (.int .i64 (n:Nat))) none).run Tryz.prog W=.ok (.string (s.extract 0 n)) W:=by
 rw [run_slice_string_to_if _ _ _ _ _ Tryz.underlying9,if_pos (by omega)]
 simp
set_option maxRecDepth 100000 in
set_option maxHeartbeats 6400000 in
theorem rsign_any (s:ByteArray) (w:World):Calls Tryz.prog 87 #[.string s] w (Ret (.int .i64 (sgN s.data.toList:Nat)) w):=by
 obtain ⟨R,hR⟩:∃ R,R=sgN s.data.toList:=⟨_,rfl⟩
 have HR:=Lib.hid hR
 rw [← hR]
 unfold Ret
 clear hR
 have hO2:One w (w.alloc (.cells #[.string ⟨#[38,38]⟩,.string ⟨#[124,124]⟩,.string ⟨#[61,61]⟩,.string ⟨#[33,61]⟩,.string ⟨#[60,61]⟩,.string ⟨#[62,61]⟩,.string ⟨#[60]⟩,.string ⟨#[62]⟩,.string ⟨#[43]⟩,.string ⟨#[45]⟩,.string ⟨#[42]⟩,.string ⟨#[47]⟩,.string ⟨#[37]⟩,.string ⟨#[33]⟩,.string ⟨#[61]⟩,.string ⟨#[40]⟩,.string ⟨#[41]⟩,.string ⟨#[123]⟩,.string ⟨#[125]⟩,.string ⟨#[44]⟩,.string ⟨#[59]⟩] 9)) sgRow:=one_new w sgRow.toArray 9
 go_enter Tryz.func87,Tryz.ntmps87
 go_upto_region 2 with fail
 generalize w.alloc _=w1 at hO2 ⊢
 have HO:=Lib.hid hO2
 clear hO2
 go_wp2_with fail
 go_loopw [2,4] (fun r iv wr=>r=.int .i64 0∧∃ j:Nat,iv=.int .i64 (j:Nat)∧j≤21∧Hid (sgG (sgL.drop j) s.data.toList=R)∧Hid (Below w1.heap.size w1 wr)) (fun _ iv _=>21 - (intOf iv).toNat)
 case atStart=>exact ⟨rfl,0,rfl,by omega,Lib.hid HR.out.symm,Lib.hid (Below.refl _ _)⟩
 case round=>
  obtain ⟨rfl,j,rfl,hj,HG,HB⟩:=hrel
  have hj0:(0:Int)≤(j:Int):=by omega
  have hOr:=HO.out.next HB.out
  have HBW:=Lib.hid hOr.below
  have hwr1:IntKind.i64.wrap ((j:Int)+1)=(j:Int)+1:=by rw [IntKind.wrap_i64]; omega
  by_cases hlt:j<21
  ·have hd1:decide ((j:Int)<21)=true:=decide_eq_true (by omega)
   have hd2:decide (j<21)=true:=decide_eq_true hlt
   have hj21:(j:Int)<21:=by omega
   have hjs:j<sgL.length:=hlt
   have y0:=hOr.fst j _ (sgRow_at hjs)
   have HST:=Lib.hid (sg_step hjs HG.out)
   obtain ⟨gb,hgb⟩:∃ gb:ByteArray,gb=⟨sgL[j].toArray⟩:=⟨_,rfl⟩
   have hgl:gb.data.toList=sgL[j]:=by rw [hgb]
   have hgs:sgL[j].length=gb.size:=by rw [← hgl,Array.length_toList]; rfl
   rw [hgs,← hgl] at HST
   rw [← hgb] at y0
   clear hgl hgs hgb hOr
   by_cases hn:gb.size≤s.size
   ·have e1:decide ((s.size:Int) ≥ (gb.size:Int))=true:=decide_eq_true (by omega)
    have e2:decide ((gb.size:Int)≤(s.size:Int))=true:=decide_eq_true (by omega)
    have e3:decide (gb.size≤s.size)=true:=decide_eq_true hn
    obtain ⟨px,hpx⟩:∃ px,px=s.extract 0 gb.size:=⟨_,rfl⟩
    have hsl:=fun W=>str_pre s gb.size hn W
    rw [← hpx] at hsl
    have hpl:px.data.toList=s.data.toList.take gb.size:=by rw [hpx,ext_take]
    rw [← hpl,ba_list] at HST
    clear hpl hpx
    by_cases he:px=gb
    ·have hq:(px == gb)=true:=by rw [MapKept.bytes_beq]; exact he
     have hq2:(px.toList == gb.toList)=true:=by rw [← beq_toListBytes]; exact hq
     have HV:Hid (R=gb.size):=Lib.hid (HST.out.1 he)
     clear he HST
     go_upto_region 6 with fail
     go_quiet (fail)
     go_wp2_with fail
     go_ret
     exact ⟨by rw [HV.out]; rfl,HBW.out.trans (below_drews _ _ _)⟩
    ·have hq:(px == gb)=false:=by rw [← Bool.not_eq_true,MapKept.bytes_beq]; exact he
     have hq2:(px.toList == gb.toList)=false:=by rw [← beq_toListBytes]; exact hq
     have HV:=Lib.hid (HST.out.2 he)
     clear he HST
     go_upto_region 6 with fail
     go_quiet (fail)
     go_wp2_with fail
     exact ⟨⟨rfl,j+1,by go_num,by omega,HV,Lib.hid (HB.out.trans (below_drews _ _ _))⟩,by simp [intOf]; omega⟩
   ·have e1:decide ((s.size:Int) ≥ (gb.size:Int))=false:=decide_eq_false (by omega)
    have e2:decide ((gb.size:Int)≤(s.size:Int))=false:=decide_eq_false (by omega)
    have e3:decide (gb.size≤s.size)=false:=decide_eq_false hn
    have HV:=Lib.hid (HST.out.2 (fun e=>hn (by
     have h1:=congrArg List.length e
     rw [List.length_take,Array.length_toList,Array.length_toList] at h1
     have h2:gb.size=gb.data.size:=rfl
     have h3:s.size=s.data.size:=rfl
     omega)))
    clear HST
    go_upto_region 6 with fail
    go_quiet (fail)
    go_wp2_with fail
    exact ⟨⟨rfl,j+1,by go_num,by omega,HV,Lib.hid (HB.out.trans (below_drews _ _ _))⟩,by simp [intOf]; omega⟩
  ·have hd1:decide ((j:Int)<21)=false:=decide_eq_false (by omega)
   have hd2:decide (j<21)=false:=decide_eq_false hlt
   have HV:Hid (R=0):=Lib.hid (by rw [← HG.out,List.drop_of_length_le (by rw [sg_len]; omega)]; rfl)
   go_wp2_with fail
   go_ret
   exact ⟨by rw [HV.out]; rfl,HBW.out⟩
end Go.Proofs.YtmbffkemfepekaaGreatDoor

namespace Go.Proofs.YtmbffkemfepekaaGreatDoor
open Go.RowKit
set_option maxRecDepth 100000 in
set_option maxHeartbeats 6400000 in
theorem rprec_any (k o:Int) (n:ByteArray) (v:Int) (A:Option Addr) (m c:Nat) (w:World):Calls Tryz.prog 77 #[.agg #[.int .i64 k,.int .i64 o,.string n,.int .i64 v,.slice A m c]] w (Ret (.int .i64 (precK k o:Nat)) w):=by
 have HP:Hid (precK k o=if k=3 then 6 else if k=4 then precO o else 7):=Lib.hid rfl
 have HQ:Hid (precO o=if o=15 then 1 else if o=14 then 2 else if o=3∨o=4 then 4 else if o=5∨o=6∨o=7 then 5 else 3):=Lib.hid rfl
 generalize precO o=Q at HP HQ
 generalize precK k o=R at HP ⊢
 unfold Ret
 have hO:=one_new w #[.int .i64 k,.int .i64 o,.string n,.int .i64 v,.slice A m c] 38
 go_enter Tryz.func77,Tryz.ntmps77
 go_upto_region 1 with fail
 generalize w.alloc _=w1 at hO ⊢
 obtain ⟨q0,q1,q2,q3,q4⟩:=bx5 hO.fst
 have HB:=Lib.hid hO.below
 clear hO
 by_cases h3:k=3
 ·subst h3
  have HV:Hid (R=6):=Lib.hid (by rw [HP.out]; rfl)
  clear HP HQ
  go_wp2_with fail
  go_ret
  exact ⟨by rw [HV.out]; rfl,HB.out⟩
 by_cases h4:k=4
 rotate_left
 ·have e1:(k == 3)=false:=by simpa using h3
  have e2:(k != 4)=true:=by simpa using h4
  have e3:(k == 4)=false:=by simpa using h4
  have HV:Hid (R=7):=Lib.hid (by rw [HP.out,if_neg h3,if_neg h4])
  clear HP HQ
  go_wp2_with fail
  go_ret
  exact ⟨by rw [HV.out]; rfl,HB.out⟩
 subst h4
 have HV:Hid (R=Q):=Lib.hid (by rw [HP.out]; rfl)
 clear HP h3
 by_cases h15:o=15
 ·subst h15
  have HW:Hid (R=1):=Lib.hid (by rw [HV.out,HQ.out]; rfl)
  clear HQ HV
  go_wp2_with fail
  go_ret
  exact ⟨by rw [HW.out]; rfl,HB.out⟩
 by_cases h14:o=14
 ·subst h14
  have HW:Hid (R=2):=Lib.hid (by rw [HV.out,HQ.out]; rfl)
  clear HQ HV
  go_wp2_with fail
  go_ret
  exact ⟨by rw [HW.out]; rfl,HB.out⟩
 by_cases h3:o=3
 ·subst h3
  have HW:Hid (R=4):=Lib.hid (by rw [HV.out,HQ.out]; rfl)
  clear HQ HV
  go_wp2_with fail
  go_ret
  exact ⟨by rw [HW.out]; rfl,HB.out⟩
 by_cases h4:o=4
 ·subst h4
  have HW:Hid (R=4):=Lib.hid (by rw [HV.out,HQ.out]; rfl)
  clear HQ HV
  go_wp2_with fail
  go_ret
  exact ⟨by rw [HW.out]; rfl,HB.out⟩
 by_cases h5:o=5
 ·subst h5
  have HW:Hid (R=5):=Lib.hid (by rw [HV.out,HQ.out]; rfl)
  clear HQ HV
  go_wp2_with fail
  go_ret
  exact ⟨by rw [HW.out]; rfl,HB.out⟩
 by_cases h6:o=6
 ·subst h6
  have HW:Hid (R=5):=Lib.hid (by rw [HV.out,HQ.out]; rfl)
  clear HQ HV
  go_wp2_with fail
  go_ret
  exact ⟨by rw [HW.out]; rfl,HB.out⟩
 by_cases h7:o=7
 ·subst h7
  have HW:Hid (R=5):=Lib.hid (by rw [HV.out,HQ.out]; rfl)
  clear HQ HV
  go_wp2_with fail
  go_ret
  exact ⟨by rw [HW.out]; rfl,HB.out⟩
 have e15:(o == 15)=false:=by simpa using h15
 have e14:(o == 14)=false:=by simpa using h14
 have e3:(o == 3)=false:=by simpa using h3
 have e4:(o == 4)=false:=by simpa using h4
 have e5:(o == 5)=false:=by simpa using h5
 have e6:(o == 6)=false:=by simpa using h6
 have e7:(o == 7)=false:=by simpa using h7
 have HW:Hid (R=3):=Lib.hid (by rw [HV.out,HQ.out,if_neg h15,if_neg h14,if_neg (by omega),if_neg (by omega)])
 clear HQ HV
 go_wp2_with fail
 go_ret
 exact ⟨by rw [HW.out]; rfl,HB.out⟩
theorem conv_one (d:Nat) (hd:d<10) (W:World) (g:Nat) (h:W.cell? ⟨g,0,none⟩=some (.int .u8 (48+(d:Int)))):(convert 53 9 (.slice (some ⟨g,0,none⟩) 1 1)).run Tryz.prog W=.ok (.string ⟨#[UInt8.ofNat (48+d)]⟩) W:=by
 refine run_convert_bytes_back (P:=Tryz.prog) W 53 9 5 ⟨g,0,none⟩ 1 [UInt8.ofNat (48+d)] Tryz.underlying53 Tryz.underlying5 Tryz.underlying9 (fun j hj=>?_)
 obtain rfl:j=0:=by simp at hj; omega
 show W.cell? ⟨g,0,none⟩=_
 rw [h]
 simp only [List.getElem_cons_zero]
 rw [ofNat_dig hd]
 have:((48+d:Nat):Int)=48+(d:Int):=by omega
 rw [this]
theorem push_list (c:UInt8) (o:ByteArray):((⟨#[c]⟩:ByteArray)++o).data.toList=c::o.data.toList:=by
 simp [ByteArray.data_append]
set_option maxRecDepth 100000 in
set_option maxHeartbeats 6400000 in
theorem rdec_any (n:Nat) (hn:n≤1099511627776) (w:World):Calls Tryz.prog 75 #[.int .i64 (n:Nat)] w (Ret (.string ⟨(decL n).toArray⟩) w):=by
 have HF:Hid (decF 20 n++(⟨#[]⟩:ByteArray).data.toList=decL n):=Lib.hid (by show decF 20 n++[]=_; rw [List.append_nil]; rfl)
 have HDL:=Lib.hid (decL_len n)
 generalize decL n=D at HF HDL ⊢
 unfold Ret
 go_enter Tryz.func75,Tryz.ntmps75
 go_wp2_with fail
 go_loopw [0,3] (fun nv ov wr=>∃ (m f:Nat) (o:ByteArray),nv=.int .i64 (m:Nat)∧ov=.string o∧m≤1099511627776∧Hid (m<10 ^ (f+1))∧Hid (decF (f+1) m++o.data.toList=D)∧Hid (Below w.heap.size w wr)) (fun nv _ _=>(intOf nv).toNat)
 case atStart=>exact ⟨n,19,⟨#[]⟩,rfl,rfl,hn,Lib.hid (by omega),HF,Lib.hid (Below.refl _ _)⟩
 case round=>
  obtain ⟨m,f,o,rfl,rfl,hm,HM,HD,HB⟩:=hrel
  have hm0:(0:Int)≤(m:Int):=by omega
  have hos:o.size≤20:=by
   have h1:=congrArg List.length HD.out
   have h2:=HDL.out
   rw [List.length_append] at h1
   have h3:o.data.toList.length=o.size:=by rw [Array.length_toList]; rfl
   omega
  have hbig:¬ 9223372036854775807<1+o.size:=by omega
  clear hos
  by_cases h9:m≤9
  rotate_left
  ·have g1:decide ((m:Int) > 9)=true:=decide_eq_true (by omega)
   have g2:decide (9<(m:Int))=true:=decide_eq_true (by omega)
   have g3:decide (9<m)=true:=decide_eq_true (by omega)
   obtain ⟨d,hd⟩:∃ d,d=m % 10:=⟨_,rfl⟩
   obtain ⟨q,hq⟩:∃ q,q=m / 10:=⟨_,rfl⟩
   have hd10:d<10:=by omega
   have hqm:q<m:=by omega
   have hr1:(m:Int).tmod 10=(d:Int):=by rw [Int.tmod_eq_emod_of_nonneg (by omega)]; omega
   have hq1:(m:Int).tdiv 10=(q:Int):=by rw [Int.tdiv_eq_ediv_of_nonneg (by omega)]; omega
   have hwd:IntKind.i64.wrap (d:Int)=(d:Int):=by rw [IntKind.wrap_i64]; omega
   have hwq:IntKind.i64.wrap (q:Int)=(q:Int):=by rw [IntKind.wrap_i64]; omega
   have hw48:IntKind.i64.wrap (48+(d:Int))=48+(d:Int):=by rw [IntKind.wrap_i64]; omega
   have hw256:(48+(d:Int)) % 256=48+(d:Int):=by omega
   have hcv0:=conv_one d hd10 (wr.alloc (.cells #[.int .u8 (48+(d:Int))] 5)) wr.heap.size (bx_new wr #[.int .u8 (48+(d:Int))] 5 0 _ rfl)
   obtain ⟨ch,hch⟩:∃ ch,ch=UInt8.ofNat (48+d):=⟨_,rfl⟩
   rw [← hch] at hcv0
   have hcv:=hcv0
   clear hcv0
   have HB1:=Lib.hid (HB.out.trans ((below_alloc wr (.cells #[.int .u8 (48+(d:Int))] 5)).mono HB.out.size))
   obtain ⟨f',rfl⟩:∃ f',f=f'+1:=by
    cases f with
    | zero=>have:=HM.out; simp at this; omega
    | succ f=>exact ⟨f,rfl⟩
   have HM1:Hid (q<10 ^ (f'+1)):=Lib.hid (by have:=HM.out; rw [Nat.pow_succ] at this; omega)
   have HD1:Hid (decF (f'+1) q++((⟨#[ch]⟩:ByteArray)++o).data.toList=D):=Lib.hid (by
    have e:decF (f'+1+1) m=decF (f'+1) (m / 10)++[UInt8.ofNat (48+m % 10)]:=by rw [decF,if_neg (by omega)]
    rw [← HD.out,e,push_list,← hd,← hq,← hch,List.append_assoc]; rfl)
   clear HD HM hd hq hch
   go_wp2_with fail
   exact ⟨⟨q,f',_,rfl,rfl,by omega,HM1,HD1,HB1⟩,by simp [intOf]; omega⟩
  ·have g1:decide ((m:Int) > 9)=false:=decide_eq_false (by omega)
   have g2:decide (9<(m:Int))=false:=decide_eq_false (by omega)
   have g3:decide (9<m)=false:=decide_eq_false (by omega)
   have hw48:IntKind.i64.wrap (48+(m:Int))=48+(m:Int):=by rw [IntKind.wrap_i64]; omega
   have hw256:(48+(m:Int)) % 256=48+(m:Int):=by omega
   have hcv0:=conv_one m (by omega) (wr.alloc (.cells #[.int .u8 (48+(m:Int))] 5)) wr.heap.size (bx_new wr #[.int .u8 (48+(m:Int))] 5 0 _ rfl)
   obtain ⟨ch,hch⟩:∃ ch,ch=UInt8.ofNat (48+m):=⟨_,rfl⟩
   rw [← hch] at hcv0
   have hcv:=hcv0
   clear hcv0
   have HB1:=Lib.hid (HB.out.trans ((below_alloc wr (.cells #[.int .u8 (48+(m:Int))] 5)).mono HB.out.size))
   have HV:Hid (((⟨#[ch]⟩:ByteArray)++o)=⟨D.toArray⟩):=Lib.hid (by
    have e:decF (f+1) m=[UInt8.ofNat (48+m)]:=by rw [decF,if_pos (by omega)]
    rw [← ba_list,push_list,← HD.out,e,← hch]
    rfl)
   clear HD HM hch
   go_wp2_with fail
   go_ret
   exact ⟨by rw [← HV.out]; rfl,HB1.out⟩
end Go.Proofs.YtmbffkemfepekaaGreatDoor

namespace Go.Proofs.YtmbffkemfepekaaGreatDoor
open Go.RowKit
theorem parB_lenT (k:Nat) (x:Nat × List UInt8):(parB k x).length≤x.2.length+2:=by
 unfold parB
 split <;> simp
theorem signO_lenT (o:Int):(signO o).length≤2:=by
 unfold signO
 repeat' split
 all_goals simp
theorem wr_lenT:∀ e,Good e→(wrE e).length+2≤40 * nP e:=by
 refine good_ind (fun v h=>?_) (fun n h=>?_) (fun o a h ha ih=>?_) (fun o a b h ha hb ia ib=>?_)
 ·rw [wr_num]
  have:=decL_len v.toNat
  simp only [exNum,nP,nPL]; omega
 ·rw [wr_name]
  have h2:n.data.toList.length≤30:=by
   unfold nmB nmL at h
   simp only [Bool.and_eq_true,decide_eq_true_eq] at h
   exact h.1.1.2
  simp only [exName,nP,nPL]; omega
 ·rw [wr_un]
  have:=parB_lenT 6 (precE a,wrE a)
  simp only [exUn,nP,nPL,List.length_cons] at this ⊢; omega
 ·rw [wr_bin]
  have h1:=parB_lenT (leftP o) (precE a,wrE a)
  have h2:=parB_lenT (precO o+1) (precE b,wrE b)
  have h3:=signO_lenT o
  simp only [exBin,nP,nPL,List.length_cons,List.length_append] at h1 h2 ⊢; omega
end Go.Proofs.YtmbffkemfepekaaGreatDoor
