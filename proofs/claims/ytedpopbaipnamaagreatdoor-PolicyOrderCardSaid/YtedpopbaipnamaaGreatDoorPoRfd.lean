/- nurseryref55.valid, walked. Conditions: the bindings lie in memory. -/
import Derived.Test.YtedpopbaipnamaaGreatDoorPoRf8
import Derived.Test.YtedpopbaipnamaaGreatDoorPoRfM
import Derived.Test.YtedpopbaipnamaaGreatDoorPoRnk
import Derived.Lib.QuietBelow
import Derived.BigQuiet
import Derived.Test.YtedpopbaipnamaaGreatDoorPoOrd
import Derived.Test.YtedpopbaipnamaaGreatDoorPoGr2
import Derived.Deep.Cut
import Derived.Deep.DeepCutAuto
namespace Go.Proofs.YtedpopbaipnamaaGreatDoor
open Go.RowKit
/-- Names and types agree so far. -/
def AgTo (bs:List Bd) (j:Nat):Prop:=∀ (q:Nat) (h:q<bs.length) (h2:q<kdB.length),q<j→bs[q].name=kdB[q].name∧bs[q].ty=kdB[q].ty
theorem agTo_map {bs:List Bd} (hl:bs.length=kdB.length) (h:AgTo bs kdB.length):bs.map (fun b=>(b.name,b.ty))=kdB.map (fun b=>(b.name,b.ty)):=by
 apply List.ext_getElem (by simpa using hl)
 intro i h1 h2
 simp only [List.length_map] at h1 h2
 simp only [List.getElem_map,Prod.mk.injEq]
 exact h i h1 h2 h2
theorem fits_len {bs:List Bd} (h:fits bs=true):bs.length=kdB.length:=by
 have:=congrArg List.length (fits_map h)
 simpa using this
theorem fits_at {bs:List Bd} (h:fits bs=true) (q:Nat) (h1:q<bs.length) (h2:q<kdB.length):bs[q].name=kdB[q].name∧bs[q].ty=kdB[q].ty:=by
 have:=congrArg (fun l=>l[q]?) (fits_map h)
 simp only [List.getElem?_map,List.getElem?_eq_getElem h1,List.getElem?_eq_getElem h2,Option.map_some,Option.some.injEq,Prod.mk.injEq] at this
 exact this
set_option maxRecDepth 100000 in
set_option maxHeartbeats 6400000 in
theorem rvalid_any (task case_:Int) (bs:List Bd) (Ab:Option Addr) (cb Bb:Nat) (w:World) (hR:RdB w Bb Ab bs) (hBb:Bb≤w.heap.size) (hbl:bs.length≤9223372036854775807) :
  Calls Tryz.prog 25 #[.agg #[.int .i64 task,.int .i64 case_,.slice Ab bs.length cb]] w (Ret (.bool (fits bs)) w):=by
 have HR:=Lib.hid hR
 have hO:=one_new w #[.int .i64 task,.int .i64 case_,.slice Ab bs.length cb] 32
 have HNF:Hid (¬ BdOk bs→fits bs=false):=Lib.hid (fun h=>by
  cases e:fits bs with
  | false=>rfl
  | true=>exact absurd (bdok_fits e) h)
 have HNL:Hid (bs.length≠kdB.length→fits bs=false):=Lib.hid (fun h=>by
  cases e:fits bs with
  | false=>rfl
  | true=>exact absurd (fits_len e) h)
 have HNA:Hid (∀ (q:Nat) (h1:q<bs.length) (h2:q<kdB.length),¬ (bs[q].name=kdB[q].name∧bs[q].ty=kdB[q].ty)→fits bs=false):=Lib.hid (fun q h1 h2 h=>by
  cases e:fits bs with
  | false=>rfl
  | true=>exact absurd (fits_at e q h1 h2) h)
 have HYS:Hid (BdOk bs→bs.length=kdB.length→AgTo bs kdB.length→fits bs=true):=Lib.hid (fun V hl h=>fits_of V (agTo_map hl h))
 have hkl:kdB.length=11:=kd_len
 have HKL:=Lib.hid hkl
 generalize fits bs=R at HNF HNL HNA HYS ⊢
 unfold Ret
 clear hR
 go_enter Tryz.func25,Tryz.ntmps25
 go_upto_region 1 with fail
 generalize w.alloc _=w1 at hO ⊢
 clear hkl
 go_wp2_with fail
 refine (rnames_any w1).mono ?_
 rintro e w2 ⟨hb2,K,rfl,hK,hKz,hrk⟩
 replace hO:=hO.next hb2
 have HRK:=Lib.hid hrk
 have HKZ:=Lib.hid hKz
 clear hb2 hrk hK hKz
 have x2:=hO.fst 2 _ rfl
 have HCB:=Lib.hid (rbind_any bs Ab cb Bb w2 (Rd.below' HR.out hO.below hBb) (Nat.le_trans hBb hO.below.size))
 unfold RetC at HCB
 go_wp2_with fail
 refine HCB.out.mono ?_
 rintro e w3 ⟨hb3,f,rfl,hf⟩
 clear x2 HCB
 have HF:=Lib.hid hf
 have hO3:=hO.next hb3
 have HB3:=Lib.hid hb3
 clear hb3 hf hO
 by_cases hf0:f=0
 rotate_left
 ·have HV:=Lib.hid (HNF.out (fun V=>hf0 (HF.out.2 V)))
  have e1:((f:Int) != 0)=true:=by simpa using hf0
  have e2:(f != 0)=true:=by simpa using hf0
  have HB:=Lib.hid hO3.below
  clear hf0 hO3
  go_wp2_with fail
  go_ret
  exact ⟨by rw [HV.out]; rfl,HB.out⟩
 have HBD:=Lib.hid (HF.out.1 hf0)
 subst hf0
 have x2:=hO3.fst 2 _ rfl
 have HO3:=Lib.hid hO3
 have HB:=Lib.hid hO3.below
 clear hO3 HF
 by_cases hln:bs.length=kdB.length
 rotate_left
 ·have HV:=Lib.hid (HNL.out hln)
  have e1:((bs.length:Int) != (kdB.length:Int))=true:=by simpa using (by omega:¬ (bs.length:Int)=(kdB.length:Int))
  have e2:((bs.length:Int) == (kdB.length:Int))=false:=by simpa using (by omega:¬ (bs.length:Int)=(kdB.length:Int))
  have e3:(bs.length == kdB.length)=false:=by simpa using hln
  have e4:(bs.length != kdB.length)=true:=by simpa using hln
  clear hln
  go_wp2_with fail
  go_ret
  exact ⟨by rw [HV.out]; rfl,HB.out⟩
 have HLN:=Lib.hid hln
 have e1:((bs.length:Int) != (kdB.length:Int))=false:=by simpa using (by omega:(bs.length:Int)=(kdB.length:Int))
 have e3:(bs.length == kdB.length)=true:=by simpa using hln
 have e4:(bs.length != kdB.length)=false:=by simpa using hln
 have e5:((bs.length:Int) == (kdB.length:Int))=true:=by simpa using (by omega:(bs.length:Int)=(kdB.length:Int))
 generalize hkn:kdB.length=kn at HLN hln e1 e3 e4 e5 HKL ⊢
 have HKN:=Lib.hid hkn
 clear hln hkn
 go_wp2_with fail
 clear e1 e3 e4 e5
 go_loopw [2,4] (fun r i wr=>r=.bool false∧∃ j:Nat,i=.int .i64 (j:Nat)∧j≤kn∧Hid (AgTo bs j)∧Hid (Below w3.heap.size w3 wr)) (fun _ i _=>kn - (intOf i).toNat)
 case atStart=>exact ⟨rfl,0,rfl,Nat.zero_le _,Lib.hid (fun q h h2 hq=>by omega),Lib.hid (Below.refl _ _)⟩
 case round=>
  obtain ⟨rfl,j,rfl,hj,HAG,HBR⟩:=hrel
  have hj0:(0:Int)≤(j:Int):=by omega
  clear x2
  have x2:=(HO3.out.next HBR.out).fst 2 _ rfl
  have HBW:=Lib.hid (HB.out.trans (HBR.out.mono HB.out.size))
  by_cases hlt:j<kn
  ·have hd1:decide ((j:Int)<(kn:Int))=true:=decide_eq_true (by omega)
   have hd2:decide (j<kn)=true:=decide_eq_true hlt
   have hjl:(j:Int)<(kn:Int):=by omega
   have hjb:j<bs.length:=by have:=HLN.out; omega
   have hjbi:(j:Int)<(bs.length:Int):=by omega
   have hjk:j<kdB.length:=by have:=HKN.out; omega
   have hwr1:IntKind.i64.wrap ((j:Int)+1)=(j:Int)+1:=by rw [IntKind.wrap_i64]; have:=HKN.out; have:=HKL.out; omega
   have hRa:RdB wr Bb Ab bs:=Rd.below' HR.out HBW.out hBb
   obtain ⟨b,off,rfl,hbB,y0,y1,-⟩:=hRa.at_ hjb
   have hRk:RdB wr (K+1) (some ⟨K,0,none⟩) kdB:=Rd.below' (Rd.below' HRK.out HB3.out HKZ.out) HBR.out (Nat.le_trans HKZ.out HB3.out.size)
   obtain ⟨b',off',e',-,z0,z1,-⟩:=hRk.at_ hjk
   injection e' with e'
   injection e' with e1 e2 _
   subst e1 e2
   have HNA2:=Lib.hid (HNA.out j hjb hjk)
   have HNX:Hid (bs[j].name=kdB[j].name∧bs[j].ty=kdB[j].ty→AgTo bs (j+1)):=Lib.hid (fun h q h1 h2 hq=>by
    by_cases e:q=j
    ·subst e; exact h
    ·exact HAG.out q h1 h2 (by omega))
   generalize bs[j].name=nm at y0 HNA2 HNX
   generalize bs[j].ty=ty at y1 HNA2 HNX
   generalize kdB[j].name=nk at z0 HNA2 HNX
   generalize kdB[j].ty=tk at z1 HNA2 HNX
   clear hRa hRk HAG hjk
   rw [Nat.zero_add] at z0 z1
   by_cases hn:nm=nk
   rotate_left
   ·have HV:=Lib.hid (HNA2.out (fun h=>hn h.1))
    have hq:(nm == nk)=false:=by rw [← Bool.not_eq_true,MapKept.bytes_beq]; exact hn
    have hq2:(nm.toList == nk.toList)=false:=by rw [← beq_toListBytes]; exact hq
    have hq3:(nm.toList != nk.toList)=true:=by rw [bne,hq2]; rfl
    have hq4:(nm != nk)=true:=by rw [bne,hq]; rfl
    clear hn HNA2 HNX
    go_upto_region 7 with fail
    go_quiet (fail)
    go_wp2_with fail
    go_ret
    exact ⟨by rw [HV.out]; rfl,HBW.out.trans (below_drews _ _ _)⟩
   by_cases ht:ty=tk
   rotate_left
   ·have HV:=Lib.hid (HNA2.out (fun h=>ht h.2))
    have e7:(ty != tk)=true:=by simpa using ht
    have e8:(ty == tk)=false:=by simpa using ht
    subst hn
    clear ht HNA2 HNX
    go_upto_region 7 with fail
    go_quiet (fail)
    go_wp2_with fail
    go_ret
    exact ⟨by rw [HV.out]; rfl,HBW.out.trans (below_drews _ _ _)⟩
   have HG:=Lib.hid (HNX.out ⟨hn,ht⟩)
   subst hn ht
   clear HNA2 HNX
   go_upto_region 7 with fail
   go_quiet (fail)
   go_wp2_with fail
   exact ⟨⟨rfl,j+1,by go_num,by omega,HG,Lib.hid (HBR.out.trans (below_drews _ _ _))⟩,by simp [intOf]; omega⟩
  ·have hd1:decide ((j:Int)<(kn:Int))=false:=decide_eq_false (by omega)
   have hd2:decide (j<kn)=false:=decide_eq_false hlt
   have HV:=Lib.hid (HYS.out HBD.out (by rw [HKN.out]; exact HLN.out) (by rw [HKN.out]; have:=HAG.out; rwa [show j=kn from by omega] at this))
   go_wp2_with fail
   go_ret
   exact ⟨by rw [HV.out]; rfl,HBW.out⟩
end Go.Proofs.YtedpopbaipnamaaGreatDoor

namespace Go.Proofs.YtedpopbaipnamaaGreatDoor
open Go.RowKit Go.Sort
set_option maxRecDepth 100000 in
set_option maxHeartbeats 12800000 in
theorem rrank_any (bs:List Bd) (V:BdOk bs) (task case_:Int) (Ab:Option Addr) (cb Bb:Nat) (A:Option Addr) (c B:Nat) (rs:List Rl) (w:World) (hP:LiesP w B A c rs) (hB:B≤w.heap.size) (hR:RdB w Bb Ab bs) (hBb:Bb≤w.heap.size) :
  Calls Tryz.prog 46 #[.agg #[.slice A rs.length c],.agg #[.int .i64 task,.int .i64 case_,.slice Ab bs.length cb]] w (Ret (.tuple #[.int .i64 (rankR rs bs).1,.int .i64 (rankR rs bs).2]) w):=by
 have hl:=hP.len
 have HP:=Lib.hid hP
 have HEV:=Lib.hid (fun (e:Ex) (vs:List Value) (W:World) (h1:Below w.heap.size w W) (hL:LiesE w B vs e)=>revalE_any bs V Ab cb Bb e B vs W (hL.below' h1 hB) (Nat.le_trans hB h1.size) (Rd.below' hR h1 hBb) (Nat.le_trans hBb h1.size))
 have HRK0:Hid (RkAt bs rs 0):=Lib.hid rfl
 have hO:=two_new w #[.slice A rs.length c] #[.int .i64 task,.int .i64 case_,.slice Ab bs.length cb] 24 32
 clear hP hR V
 unfold Ret
 go_enter Tryz.func46,Tryz.ntmps46
 go_upto_region 1 with fail
 generalize World.alloc _ _=w1 at hO ⊢
 have HO:=Lib.hid hO
 clear hO
 go_wp2_with fail
 go_loopw [4,5,6,7,8,9,10] (fun r4 r5 i _ _ _ _ wr=>r4=.int .i64 0∧r5=.int .i64 0∧∃ j:Nat,i=.int .i64 (j:Nat)∧j≤rs.length∧Hid (RkAt bs rs j)∧Hid (Below w1.heap.size w1 wr)) (fun _ _ i _ _ _ _ _=>rs.length - (intOf i).toNat)
 case atStart=>exact ⟨rfl,rfl,0,rfl,Nat.zero_le _,HRK0,Lib.hid (Below.refl _ _)⟩
 case round=>
  obtain ⟨rfl,rfl,j,rfl,hj,hrk,HB⟩:=hrel
  have hj0:(0:Int)≤(j:Int):=by omega
  have hOr:=HO.out.next HB.out
  have HBW:=Lib.hid hOr.below
  have x0:=hOr.fst 0 _ rfl
  have z2:=hOr.snd 2 _ rfl
  have HOr:=Lib.hid hOr
  clear hOr
  by_cases hlt:j<rs.length
  ·have hd1:decide ((j:Int)<(rs.length:Int))=true:=decide_eq_true (by omega)
   have hwr1:IntKind.i64.wrap ((j:Int)+1)=(j:Int)+1:=by rw [IntKind.wrap_i64]; omega
   have hd2:decide (j<rs.length)=true:=decide_eq_true hlt
   have hjl:(j:Int)<(rs.length:Int):=by omega
   obtain ⟨b,off,k,o,n,v,A1,m1,c1,k2,o2,n2,v2,A2,m2,c2,rfl,hb1,hL1,hL2,y0,y1,y2,y3,y4,y5,y6,y7,y8,y9⟩:=HP.out.at_ j hlt
   have HC:Hid (∀ W,Below w.heap.size w W→(W.cell? ⟨b,off+j * 10,none⟩=some (.int .i64 k)∧W.cell? ⟨b,off+j * 10+1,none⟩=some (.int .i64 o)∧W.cell? ⟨b,off+j * 10+2,none⟩=some (.string n)∧W.cell? ⟨b,off+j * 10+3,none⟩=some (.int .i64 v)∧W.cell? ⟨b,off+j * 10+4,none⟩=some (.slice A1 m1 c1)) ∧
     (W.cell? ⟨b,off+j * 10+5,none⟩=some (.int .i64 k2)∧W.cell? ⟨b,off+j * 10+6,none⟩=some (.int .i64 o2)∧W.cell? ⟨b,off+j * 10+7,none⟩=some (.string n2)∧W.cell? ⟨b,off+j * 10+8,none⟩=some (.int .i64 v2)∧W.cell? ⟨b,off+j * 10+9,none⟩=some (.slice A2 m2 c2))):=Lib.hid (fun W hW=>
    ⟨⟨(hW.cell (p:=⟨b,off+j * 10,none⟩) (by show b<w.heap.size; omega)).trans y0,(hW.cell (p:=⟨b,off+j * 10+1,none⟩) (by show b<w.heap.size; omega)).trans y1,(hW.cell (p:=⟨b,off+j * 10+2,none⟩) (by show b<w.heap.size; omega)).trans y2,(hW.cell (p:=⟨b,off+j * 10+3,none⟩) (by show b<w.heap.size; omega)).trans y3,(hW.cell (p:=⟨b,off+j * 10+4,none⟩) (by show b<w.heap.size; omega)).trans y4⟩,
     (hW.cell (p:=⟨b,off+j * 10+5,none⟩) (by show b<w.heap.size; omega)).trans y5,(hW.cell (p:=⟨b,off+j * 10+6,none⟩) (by show b<w.heap.size; omega)).trans y6,(hW.cell (p:=⟨b,off+j * 10+7,none⟩) (by show b<w.heap.size; omega)).trans y7,(hW.cell (p:=⟨b,off+j * 10+8,none⟩) (by show b<w.heap.size; omega)).trans y8,(hW.cell (p:=⟨b,off+j * 10+9,none⟩) (by show b<w.heap.size; omega)).trans y9⟩)
   have HE1:=Lib.hid (fun W hW=>HEV.out rs[j].cond _ W hW hL1)
   have HE2:=Lib.hid (fun W hW=>HEV.out rs[j].key _ W hW hL2)
   have HNX:Hid (keyR bs rs[j]=none→RkAt bs rs (j+1)):=Lib.hid (fun h=>rk_none hrk.out hlt h)
   have HYS:Hid (∀ q,keyR bs rs[j]=some q→rankR rs bs=((j:Int),q)):=Lib.hid (fun q h=>rk_some hrk.out hlt h)
   have HN1:Hid (∀ f,evalE bs rs[j].cond=.er f→f≠0):=Lib.hid (fun f h=>evalE_ne _ _ _ h)
   have HN2:Hid (∀ f,evalE bs rs[j].key=.er f→f≠0):=Lib.hid (fun f h=>evalE_ne _ _ _ h)
   have HKR:Hid (keyR bs rs[j]=match evalE bs rs[j].cond with | .er _=>none | .ok n=>if n=1 then (match evalE bs rs[j].key with | .er _=>none | .ok k=>some k) else none):=Lib.hid rfl
   generalize keyR bs rs[j]=kr at HNX HYS HKR
   generalize evalE bs rs[j].cond=ac at HE1 HN1 HKR
   generalize evalE bs rs[j].key=ak at HE2 HN2 HKR
   unfold exC ansV Ret at HE1 HE2
   clear y0 y1 y2 y3 y4 y5 y6 y7 y8 y9 hL1 hL2 hrk
   obtain ⟨⟨c0,c1',c2',c3,c4⟩,-⟩:=HC.out wr HBW.out
   have HI1:=Lib.hid (fun d os=>HE1.out (grow (redrawn wr d) os) (HBW.out.trans ((below_regrown wr d os).mono HBW.out.size)))
   have g0:=fun d os=>cell_regrown (w:=wr) x0 d os
   have g1:=fun d os=>cell_regrown (w:=wr) z2 d os
   have g2:=fun d os=>cell_regrown (w:=wr) c0 d os
   have g3:=fun d os=>cell_regrown (w:=wr) c1' d os
   have g4:=fun d os=>cell_regrown (w:=wr) c2' d os
   have g5:=fun d os=>cell_regrown (w:=wr) c3 d os
   have g6:=fun d os=>cell_regrown (w:=wr) c4 d os
   go_upto_region 4 with fail
   refine wp_region_quiet_below (by kernel_rfl) (by kernel_rfl) ?_
   repeat (go_big_quiet_step (first | exact Calls.regrown_of (HI1.out _ _)))
   refine wpQuiet_nil ?_
   rintro _ ⟨pq,rfl⟩
   have hb4:=below_regrown wr pq.d pq.os
   generalize grow (redrawn wr pq.d) pq.os=w4 at hb4 ⊢
   clear g0 g1 g2 g3 g4 g5 g6 x0 z2 c0 c1' c2' c3 c4
   have HB4:=Lib.hid (HB.out.trans (hb4.mono HB.out.size))
   have HBW4:=Lib.hid (HBW.out.trans (hb4.mono HBW.out.size))
   clear hb4
   obtain ⟨-,c5,c6,c7,c8,c9⟩:=HC.out w4 HBW4.out
   have x0:=(HO.out.next HB4.out).fst 0 _ rfl
   have z2:=(HO.out.next HB4.out).snd 2 _ rfl
   have HI2:=Lib.hid (fun d os=>HE2.out (grow (redrawn w4 d) os) (HBW4.out.trans ((below_regrown w4 d os).mono HBW4.out.size)))
   have g0:=fun d os=>cell_regrown (w:=w4) x0 d os
   have g1:=fun d os=>cell_regrown (w:=w4) z2 d os
   have g2:=fun d os=>cell_regrown (w:=w4) c5 d os
   have g3:=fun d os=>cell_regrown (w:=w4) c6 d os
   have g4:=fun d os=>cell_regrown (w:=w4) c7 d os
   have g5:=fun d os=>cell_regrown (w:=w4) c8 d os
   have g6:=fun d os=>cell_regrown (w:=w4) c9 d os
   go_upto_region 5 with fail
   refine wp_region_quiet_below (by kernel_rfl) (by kernel_rfl) ?_
   repeat (go_big_quiet_step (first | exact Calls.regrown_of (HI2.out _ _)))
   refine wpQuiet_nil ?_
   rintro _ ⟨pq,rfl⟩
   have hb5:=below_regrown w4 pq.d pq.os
   generalize grow (redrawn w4 pq.d) pq.os=w5 at hb5 ⊢
   clear g0 g1 g2 g3 g4 g5 g6 x0 z2 c5 c6 c7 c8 c9
   have HB5:=Lib.hid (HB4.out.trans (hb5.mono HB4.out.size))
   have HBW5:=Lib.hid (HBW4.out.trans (hb5.mono HBW4.out.size))
   clear hb5 HI1 HI2 HE1 HE2 HC
   cases ac with
   | er f=>
    have hf0:=HN1.out f rfl
    have e3:((f:Int) == 0)=false:=by simpa using hf0
    have e4:(f == 0)=false:=by simpa using hf0
    simp only [Ans.n,Ans.f]
    clear hf0
    have HKV:=Lib.hid (HNX.out (by rw [HKR.out]))
    clear HKR HNX HYS HN1 HN2
    go_wp2_with fail
    exact ⟨⟨rfl,rfl,j+1,by go_num,by omega,HKV,HB5⟩,by simp [intOf]; omega⟩
   | ok n1=>
    cases ak with
    | er g=>
     have hg0:=HN2.out g rfl
     have e3:((g:Int) == 0)=false:=by simpa using hg0
     have e4:(g == 0)=false:=by simpa using hg0
     simp only [Ans.n,Ans.f]
     clear hg0
     have HKV:=Lib.hid (HNX.out (by rw [HKR.out]; simp only; split <;> rfl))
     clear HKR HNX HYS HN1 HN2
     go_wp2_with fail
     exact ⟨⟨rfl,rfl,j+1,by go_num,by omega,HKV,HB5⟩,by simp [intOf]; omega⟩
    | ok kq=>
     simp only [Ans.n,Ans.f]
     by_cases h1:n1=1
     ·subst h1
      have HV:=Lib.hid (HYS.out kq (by rw [HKR.out]; rfl))
      clear HKR HNX HYS HN1 HN2
      go_wp2_with fail
      go_ret2
      exact ⟨by rw [HV.out]; rfl,HBW5.out⟩
     ·have e3:(n1 == 1)=false:=by simpa using h1
      have HKV:=Lib.hid (HNX.out (by rw [HKR.out]; simp only; rw [if_neg h1]))
      clear h1 HKR HNX HYS HN1 HN2
      go_wp2_with fail
      exact ⟨⟨rfl,rfl,j+1,by go_num,by omega,HKV,HB5⟩,by simp [intOf]; omega⟩
  ·have hd1:decide ((j:Int)<(rs.length:Int))=false:=decide_eq_false (by omega)
   have hd2:decide (j<rs.length)=false:=decide_eq_false hlt
   have HV:=Lib.hid (rk_end hrk.out (by omega:j=rs.length))
   clear hrk
   go_wp2_with fail
   go_ret2
   exact ⟨by rw [HV.out]; rfl,HBW.out⟩
end Go.Proofs.YtedpopbaipnamaaGreatDoor

namespace Go.Proofs.YtedpopbaipnamaaGreatDoor
open Go.RowKit Go.Sort
/-- Numbers put behind a row of numbers of the call's own. -/
theorem app_nat {W:World} {base n m c B:Nat} {A:Option Addr} {v:Value} {xs ys:List Nat} (hown:W.ownsRow base 3 1 v n (xs.map natV)) (hr:Rd W B 1 A m (ys.map natV)) (hbase:base≤W.heap.size) (hl:n+m≤64) (ty:TypeId) :
  ∃ (v':Value) (W':World),(Builtin.append_ #[36,36] ty #[v,.slice A m c]).run Tryz.prog W=.ok v' W'∧W'.ownsRow base 3 1 v' (n+m) ((xs++ys).map natV)∧Below base W W'∧∀ k,k<W.heap.size→v.ownBlock≠some k→W'.heap[k]? = W.heap[k]?:=by
 obtain ⟨i0,hi,hz0,hz1,hz2⟩:=info_parts intInfo
 obtain ⟨v',w',hrun,h2,h3,-⟩:=run_append_rd (P:=Tryz.prog) W base 36 ty 3 i0 (.int .i64 0) 1 8 Tryz.underlying36 hi hz0 hz1 hz2 rfl (by omega) v n _ hown B A m c _ hr (by intro u hu; obtain ⟨k,-,rfl⟩:=List.mem_map.1 hu; rfl) (by unfold maxLen; omega) (by omega) hbase
 exact ⟨v',w',hrun,by rw [List.map_append]; exact h2,(Below.refl base W).grown h3 hbase (fun g e=>by have:=World.ownsRow.lt hown g e; omega),fun k hk hne=>h3.block k hk (fun e=>hne e.symm)⟩
theorem own_new (W:World):(W.alloc (.cells #[] 3)).ownsRow W.heap.size 3 1 (.slice (some ⟨W.heap.size,0,none⟩) 0 0) 0 (([]:List Nat).map natV):=
 ⟨rfl,.inr ⟨W.heap.size,0,#[],rfl,Nat.le_refl _,heap_alloc_new W _,Nat.le_refl _,Nat.zero_le _,rfl,rfl⟩⟩
theorem rd_one {W:World} {blk i:Nat} (h:W.heap[blk]? = some (.cells #[.int .i64 (i:Nat)] 3 (0,0))):Rd W (blk+1) 1 (some ⟨blk,0,none⟩) 1 (([i]:List Nat).map natV):=
 ⟨rfl,.inr ⟨blk,0,rfl,by omega,fun j u hu=>by
  rw [Nat.zero_add]
  exact cell_of_cells (L:=[.int .i64 (i:Nat)]) h hu⟩⟩
theorem rd_take {W:World} {B go n k:Nat} {l:List Nat} (h:Rd W B 1 (some ⟨go,0,none⟩) n (l.map natV)) (hn:n=l.length) (hk:k≤n):Rd W B 1 (some ⟨go,0,none⟩) k ((l.take k).map natV):=by
 refine ⟨by simp; omega,?_⟩
 by_cases h0:n=0
 ·left; omega
 ·obtain ⟨b,off,e,hb,hc⟩:=h.addr (by omega)
  refine .inr ⟨b,off,e,hb,fun j u hu=>hc j u ?_⟩
  rw [List.map_take,List.getElem?_take] at hu
  split at hu
  ·exact hu
  ·cases hu
theorem rd_drop {W:World} {B go n k:Nat} {l:List Nat} (h:Rd W B 1 (some ⟨go,0,none⟩) n (l.map natV)) (hn:n=l.length) (hk:k≤n):Rd W B 1 (some ⟨go,k,none⟩) (n - k) ((l.drop k).map natV):=by
 refine ⟨by simp; omega,?_⟩
 by_cases h0:n - k=0
 ·left; exact h0
 ·obtain ⟨b,off,e,hb,hc⟩:=h.addr (by omega)
  injection e with e
  injection e with e1 e2
  subst e1 e2
  refine .inr ⟨go,k,rfl,hb,fun j u hu=>?_⟩
  have:=hc (k+j) u (by rw [List.map_drop,List.getElem?_drop] at hu; exact hu)
  rwa [Nat.zero_add] at this
theorem rd_none {W:World} {B n:Nat} {A:Option Addr} {l:List Nat} (hn:n=0) (h:l=[]):Rd W B 1 A n (l.map natV):=by subst h hn; exact ⟨rfl,.inl rfl⟩
theorem rd_zero {W:World} {B:Nat} {A:Option Addr} {l:List Nat} (h:l=[]):Rd W B 1 A 0 (l.map natV):=by subst h; exact ⟨rfl,.inl rfl⟩
/-- What OrderOf returns. -/
def OrfR (rs:List Rl) (ls:List At) (w:World):Ending→World→Prop:=fun e W=>Below w.heap.size w W∧∃ (go co:Nat) (l:List Nat),e=.returned (.slice (some ⟨go,0,none⟩) ls.length co)∧IsOrd ls.length (fun i=>rankR rs (ls.getD i ⟨0,0,[]⟩).vals) l∧Rd W W.heap.size 1 (some ⟨go,0,none⟩) ls.length (l.map natV)
end Go.Proofs.YtedpopbaipnamaaGreatDoor
