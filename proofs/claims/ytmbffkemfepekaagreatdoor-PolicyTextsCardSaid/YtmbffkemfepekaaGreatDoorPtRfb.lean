/- nurseryref55.Check, walked. Conditions: the rules lie in memory. -/
import Derived.Test.YtmbffkemfepekaaGreatDoorPtRf6
import Derived.Test.YtmbffkemfepekaaGreatDoorPtRf1
import Derived.Test.YtmbffkemfepekaaGreatDoorPtAwM
import Derived.Test.YtmbffkemfepekaaGreatDoorPtLx5
import Derived.Test.YtmbffkemfepekaaGreatDoorPtPolL
import Derived.Test.YtmbffkemfepekaaGreatDoorPtAwk
namespace Go.Proofs.YtmbffkemfepekaaGreatDoor
open Go.RowKit
theorem chkR_cut {rs:List Rl} {j f:Nat} (h:j<rs.length) (h1:chkR (rs.take j)=0) (h2:(tyE rs[j].cond 2=f∨(tyE rs[j].cond 2=0∧tyE rs[j].key 1=f))) (hf:f≠0):chkR rs=f:=by
 have e:rs=rs.take j++(rs[j]::rs.drop (j+1)):=by rw [← List.drop_eq_getElem_cons h,List.take_append_drop]
 rw [e,chkR_append,if_pos h1]
 unfold chkR
 rcases h2 with h2 | ⟨h2,h3⟩
 ·rw [if_neg (by rw [h2]; exact hf)]; exact h2
 ·rw [if_pos h2,if_neg (by rw [h3]; exact hf)]; exact h3
theorem chkR_next {rs:List Rl} {j:Nat} (h:j<rs.length) (h1:chkR (rs.take j)=0) (h2:tyE rs[j].cond 2=0) (h3:tyE rs[j].key 1=0):chkR (rs.take (j+1))=0:=by
 rw [List.take_add_one,List.getElem?_eq_getElem h,chkR_append,if_pos h1]
 simp [chkR,h2,h3]
set_option maxRecDepth 100000 in
set_option maxHeartbeats 6400000 in
theorem rpck_any (A:Option Addr) (c B:Nat) (rs:List Rl) (w:World) (hP:LiesP w B A c rs) (hB:B≤w.heap.size) :
  Calls Tryz.prog 11 #[.agg #[.slice A rs.length c]] w (Ret (.int .i64 (chkP rs:Nat)) w):=by
 have hl:=hP.len
 have HP:=Lib.hid hP
 have hO:=one_new w #[.slice A rs.length c] 24
 by_cases h16:16<rs.length
 ·have HV:Hid (chkP rs=4):=Lib.hid (by unfold chkP; rw [if_pos h16])
  have e1:decide ((rs.length:Int) > 16)=true:=decide_eq_true (by omega)
  have e2:decide (16<(rs.length:Int))=true:=decide_eq_true (by omega)
  have e3:decide (16<rs.length)=true:=decide_eq_true h16
  generalize chkP rs=R at HV ⊢
  unfold Ret
  clear hP
  go_enter Tryz.func11,Tryz.ntmps11
  go_upto_region 1 with fail
  generalize w.alloc _=w1 at hO ⊢
  have x0:=hO.fst 0 _ rfl
  have HB:=Lib.hid hO.below
  clear hO
  go_wp2_with fail
  go_ret
  exact ⟨by rw [HV.out]; rfl,HB.out⟩
 have HV:Hid (chkP rs=chkR rs):=Lib.hid (by unfold chkP; rw [if_neg h16])
 have e1:decide ((rs.length:Int) > 16)=false:=decide_eq_false (by omega)
 have e2:decide (16<(rs.length:Int))=false:=decide_eq_false (by omega)
 have e3:decide (16<rs.length)=false:=decide_eq_false h16
 generalize chkP rs=R at HV ⊢
 unfold Ret
 clear hP
 go_enter Tryz.func11,Tryz.ntmps11
 go_upto_region 1 with fail
 generalize w.alloc _=w1 at hO ⊢
 have x0:=hO.fst 0 _ rfl
 have HO:=Lib.hid hO
 go_wp2_with fail
 clear e1 e2 e3 x0
 go_loopw [2,3,4,5] (fun r i _ _ wr=>r=.int .i64 0∧∃ j:Nat,i=.int .i64 (j:Nat)∧j≤rs.length∧Hid (chkR (rs.take j)=0)∧Hid (Below w1.heap.size w1 wr)) (fun _ i _ _ _=>rs.length - (intOf i).toNat)
 case atStart=>exact ⟨rfl,0,rfl,Nat.zero_le _,Lib.hid rfl,Lib.hid (Below.refl _ _)⟩
 case round=>
  obtain ⟨rfl,j,rfl,hj,HZ,HB⟩:=hrel
  have hj0:(0:Int)≤(j:Int):=by omega
  have hOr:=HO.out.next HB.out
  have x0:=hOr.fst 0 _ rfl
  have HBW:=Lib.hid hOr.below
  clear hOr hO
  by_cases hlt:j<rs.length
  ·have hd1:decide ((j:Int)<(rs.length:Int))=true:=decide_eq_true (by omega)
   have hd2:decide (j<rs.length)=true:=decide_eq_true hlt
   have hjl:(j:Int)<(rs.length:Int):=by omega
   have hwr1:IntKind.i64.wrap ((j:Int)+1)=(j:Int)+1:=by rw [IntKind.wrap_i64]; omega
   obtain ⟨b,off,k1,o1,n1,v1,A1,m1,c1,k2,o2,n2,v2,A2,m2,c2,rfl,hb,hL1,hL2,y0,y1,y2,y3,y4,y5,y6,y7,y8,y9⟩:=HP.out.at_ j hlt
   have HC:Hid (∀ W,Below w.heap.size w W→(W.cell? ⟨b,off+j * 10,none⟩=some (.int .i64 k1)∧W.cell? ⟨b,off+j * 10+1,none⟩=some (.int .i64 o1)∧W.cell? ⟨b,off+j * 10+2,none⟩=some (.string n1)∧W.cell? ⟨b,off+j * 10+3,none⟩=some (.int .i64 v1)∧W.cell? ⟨b,off+j * 10+4,none⟩=some (.slice A1 m1 c1)) ∧
     (W.cell? ⟨b,off+j * 10+5,none⟩=some (.int .i64 k2)∧W.cell? ⟨b,off+j * 10+6,none⟩=some (.int .i64 o2)∧W.cell? ⟨b,off+j * 10+7,none⟩=some (.string n2)∧W.cell? ⟨b,off+j * 10+8,none⟩=some (.int .i64 v2)∧W.cell? ⟨b,off+j * 10+9,none⟩=some (.slice A2 m2 c2))):=Lib.hid (fun W hW=>
    ⟨⟨(hW.cell (p:=⟨b,off+j * 10,none⟩) (by show b<w.heap.size; omega)).trans y0,(hW.cell (p:=⟨b,off+j * 10+1,none⟩) (by show b<w.heap.size; omega)).trans y1,(hW.cell (p:=⟨b,off+j * 10+2,none⟩) (by show b<w.heap.size; omega)).trans y2,(hW.cell (p:=⟨b,off+j * 10+3,none⟩) (by show b<w.heap.size; omega)).trans y3,(hW.cell (p:=⟨b,off+j * 10+4,none⟩) (by show b<w.heap.size; omega)).trans y4⟩,
     (hW.cell (p:=⟨b,off+j * 10+5,none⟩) (by show b<w.heap.size; omega)).trans y5,(hW.cell (p:=⟨b,off+j * 10+6,none⟩) (by show b<w.heap.size; omega)).trans y6,(hW.cell (p:=⟨b,off+j * 10+7,none⟩) (by show b<w.heap.size; omega)).trans y7,(hW.cell (p:=⟨b,off+j * 10+8,none⟩) (by show b<w.heap.size; omega)).trans y8,(hW.cell (p:=⟨b,off+j * 10+9,none⟩) (by show b<w.heap.size; omega)).trans y9⟩)
   have HK1:=Lib.hid (fun (W:World) (hW:Below w.heap.size w W)=>rckx_any rs[j].cond 2 B _ W (hL1.below' hW hB) (Nat.le_trans hB hW.size))
   have HK2:=Lib.hid (fun (W:World) (hW:Below w.heap.size w W)=>rckx_any rs[j].key 1 B _ W (hL2.below' hW hB) (Nat.le_trans hB hW.size))
   have HCUT:=Lib.hid (fun f h2 hf=>chkR_cut (f:=f) hlt HZ.out h2 hf)
   have HNX:=Lib.hid (fun h2 h3=>chkR_next hlt HZ.out h2 h3)
   unfold exC Ret at HK1 HK2
   generalize tyE rs[j].cond 2=f1 at HK1 HCUT HNX
   generalize tyE rs[j].key 1=f2 at HK2 HCUT HNX
   obtain ⟨⟨z0,z1,z2,z3,z4⟩,-⟩:=HC.out wr HBW.out
   clear y0 y1 y2 y3 y4 y5 y6 y7 y8 y9 hL1 hL2 HZ
   go_wp2_with fail
   refine (HK1.out _ HBW.out).mono ?_
   rintro e w5 ⟨rfl,hb5⟩
   clear z0 z1 z2 z3 z4 x0
   have HB5:=Lib.hid (HB.out.trans (hb5.mono HB.out.size))
   have HBW5:=Lib.hid (HBW.out.trans (hb5.mono HBW.out.size))
   clear hb5
   by_cases hf1:f1=0
   rotate_left
   ·have HQ:=Lib.hid (HCUT.out f1 (.inl rfl) hf1)
    have e1:((f1:Int) != 0)=true:=by simpa using hf1
    have e2:(f1 != 0)=true:=by simpa using hf1
    clear hf1 HNX HCUT
    go_wp2_with fail
    go_ret
    exact ⟨by rw [HV.out,HQ.out]; rfl,HBW5.out⟩
   subst hf1
   have x0:=(HO.out.next HB5.out).fst 0 _ rfl
   obtain ⟨-,z5,z6,z7,z8,z9⟩:=HC.out w5 HBW5.out
   go_wp2_with fail
   refine (HK2.out _ HBW5.out).mono ?_
   rintro e w6 ⟨rfl,hb6⟩
   clear z5 z6 z7 z8 z9 x0
   have HB6:=Lib.hid (HB5.out.trans (hb6.mono HB5.out.size))
   have HBW6:=Lib.hid (HBW5.out.trans (hb6.mono HBW5.out.size))
   clear hb6
   by_cases hf2:f2=0
   rotate_left
   ·have HQ:=Lib.hid (HCUT.out f2 (.inr ⟨by first | rfl | exact True.intro,rfl⟩) hf2)
    have e1:((f2:Int) != 0)=true:=by simpa using hf2
    have e2:(f2 != 0)=true:=by simpa using hf2
    clear hf2 HNX HCUT
    go_wp2_with fail
    go_ret
    exact ⟨by rw [HV.out,HQ.out]; rfl,HBW6.out⟩
   subst hf2
   have HZ2:=Lib.hid (HNX.out (by first | rfl | exact True.intro) (by first | rfl | exact True.intro))
   clear HNX HCUT
   go_wp2_with fail
   exact ⟨⟨rfl,j+1,by go_num,by omega,HZ2,HB6⟩,by simp [intOf]; omega⟩
  ·have hd1:decide ((j:Int)<(rs.length:Int))=false:=decide_eq_false (by omega)
   have hd2:decide (j<rs.length)=false:=decide_eq_false hlt
   have HQ:Hid (chkR rs=0):=Lib.hid (by have:=HZ.out; rwa [List.take_of_length_le (by omega)] at this)
   go_wp2_with fail
   go_ret
   exact ⟨by rw [HV.out,HQ.out]; rfl,HBW.out⟩
end Go.Proofs.YtmbffkemfepekaaGreatDoor

namespace Go.Proofs.YtmbffkemfepekaaGreatDoor
open Go.RowKit Go.Sort
set_option maxRecDepth 100000 in
set_option maxHeartbeats 6400000 in
theorem rpprint_any (A:Option Addr) (c B:Nat) (rs:List Rl) (w:World) (hP:LiesP w B A c rs) (hB:B≤w.heap.size) :
  Calls Tryz.prog 7 #[.agg #[.slice A rs.length c]] w (Ret (pprV rs) w):=by
 have hl:=hP.len
 have HP:=Lib.hid hP
 have HCK:=Lib.hid (fun (W:World) (hb:Below w.heap.size w W)=>rpck_any A c B rs W (hP.below' hb hB) (Nat.le_trans hB hb.size))
 have HV0:Hid (pprV rs=if chkP rs=0 then .tuple #[.string (strT (printM rs)),.int .i64 0] else .tuple #[.string ⟨#[]⟩,.int .i64 (chkP rs:Nat)]):=Lib.hid rfl
 have HRU:Hid (chkP rs=0→rs.length≤16∧∀ r∈rs,tyE r.cond 2=0∧tyE r.key 1=0):=Lib.hid (fun h=>chkP_rule h)
 generalize pprV rs=pv at HV0 ⊢
 unfold Ret at HCK ⊢
 generalize chkP rs=ce at HCK HV0 HRU
 have hO:=one_new w #[.slice A rs.length c] 24
 clear hP
 by_cases hce:ce=0
 rotate_left
 ·have n0:((ce:Nat):Int)≠0:=by omega
  have n1:(((ce:Nat):Int) != 0)=true:=by simpa using hce
  have n2:(ce != 0)=true:=by simpa using hce
  have HV:Hid (pv=.tuple #[.string ⟨#[]⟩,.int .i64 (ce:Nat)]):=Lib.hid (by rw [HV0.out,if_neg hce])
  clear HRU HV0 hce
  go_enter Tryz.func7,Tryz.ntmps7
  go_upto_region 1 with fail
  generalize w.alloc _=w1 at hO ⊢
  have x0:=hO.fst 0 _ rfl
  go_wp2_with fail
  refine (HCK.out _ hO.below).mono ?_
  rintro e w2 ⟨rfl,hb2⟩
  have HB:=Lib.hid (hO.below.trans (hb2.mono hO.below.size))
  clear hO x0 hb2
  go_wp2_with fail
  go_ret2
  exact ⟨HV.out.symm ▸ rfl,HB.out⟩
 subst hce
 have HV:Hid (pv=.tuple #[.string (strT (printM rs)),.int .i64 0]):=Lib.hid (by rw [HV0.out,if_pos rfl])
 obtain ⟨h16,hru⟩:=HRU.out rfl
 have HR:=Lib.hid (fun r hr=>rule_wr (hru r hr).1 (hru r hr).2)
 clear HRU HV0 hru
 go_enter Tryz.func7,Tryz.ntmps7
 go_upto_region 1 with fail
 generalize w.alloc _=w1 at hO ⊢
 have x0:=hO.fst 0 _ rfl
 go_wp2_with fail
 refine (HCK.out _ hO.below).mono ?_
 rintro e w2 ⟨rfl,hb2⟩
 replace hO:=hO.next hb2
 have HO:=Lib.hid hO
 clear x0 hb2 hO HCK
 go_wp2_with fail
 go_loopw [5,6,7,8,9,10] (fun o i _ _ _ _ wr=>∃ j:Nat,i=.int .i64 (j:Nat)∧o=.string (strT (printM (rs.take j)))∧j≤rs.length∧Hid (Below w2.heap.size w2 wr)) (fun _ i _ _ _ _ _=>rs.length - (intOf i).toNat)
 case atStart=>exact ⟨0,rfl,rfl,Nat.zero_le _,Lib.hid (Below.refl _ _)⟩
 case round=>
  obtain ⟨j,rfl,rfl,hj,HB⟩:=hrel
  have hj0:(0:Int)≤(j:Int):=by omega
  have hOr:=HO.out.next HB.out
  have x0:=hOr.fst 0 _ rfl
  have HBW:=Lib.hid hOr.below
  clear hOr
  by_cases hlt:j<rs.length
  ·have hd1:decide ((j:Int)<(rs.length:Int))=true:=decide_eq_true (by omega)
   have hd2:decide (j<rs.length)=true:=decide_eq_true hlt
   have hjl:(j:Int)<(rs.length:Int):=by omega
   have hwr1:IntKind.i64.wrap ((j:Int)+1)=(j:Int)+1:=by rw [IntKind.wrap_i64]; omega
   obtain ⟨pc,pk,lc,lk⟩:=HR.out rs[j] (List.getElem_mem hlt)
   have hpl:(printM (rs.take j)).length≤j * 8011:=by
    have:=print_len (rs:=rs.take j) (fun r hr=>⟨(HR.out r (List.mem_of_mem_take hr)).2.2.1,(HR.out r (List.mem_of_mem_take hr)).2.2.2⟩)
    rwa [List.length_take,Nat.min_eq_left hj] at this
   obtain ⟨b,off,k1,o1,n1,v1,A1,m1,c1,k2,o2,n2,v2,A2,m2,c2,rfl,hb,hL1,hL2,y0,y1,y2,y3,y4,y5,y6,y7,y8,y9⟩:=HP.out.at_ j hlt
   have HC:Hid (∀ W,Below w.heap.size w W→(W.cell? ⟨b,off+j * 10,none⟩=some (.int .i64 k1)∧W.cell? ⟨b,off+j * 10+1,none⟩=some (.int .i64 o1)∧W.cell? ⟨b,off+j * 10+2,none⟩=some (.string n1)∧W.cell? ⟨b,off+j * 10+3,none⟩=some (.int .i64 v1)∧W.cell? ⟨b,off+j * 10+4,none⟩=some (.slice A1 m1 c1)) ∧
     (W.cell? ⟨b,off+j * 10+5,none⟩=some (.int .i64 k2)∧W.cell? ⟨b,off+j * 10+6,none⟩=some (.int .i64 o2)∧W.cell? ⟨b,off+j * 10+7,none⟩=some (.string n2)∧W.cell? ⟨b,off+j * 10+8,none⟩=some (.int .i64 v2)∧W.cell? ⟨b,off+j * 10+9,none⟩=some (.slice A2 m2 c2))):=Lib.hid (fun W hW=>
    ⟨⟨(hW.cell (p:=⟨b,off+j * 10,none⟩) (by show b<w.heap.size; omega)).trans y0,(hW.cell (p:=⟨b,off+j * 10+1,none⟩) (by show b<w.heap.size; omega)).trans y1,(hW.cell (p:=⟨b,off+j * 10+2,none⟩) (by show b<w.heap.size; omega)).trans y2,(hW.cell (p:=⟨b,off+j * 10+3,none⟩) (by show b<w.heap.size; omega)).trans y3,(hW.cell (p:=⟨b,off+j * 10+4,none⟩) (by show b<w.heap.size; omega)).trans y4⟩,
     (hW.cell (p:=⟨b,off+j * 10+5,none⟩) (by show b<w.heap.size; omega)).trans y5,(hW.cell (p:=⟨b,off+j * 10+6,none⟩) (by show b<w.heap.size; omega)).trans y6,(hW.cell (p:=⟨b,off+j * 10+7,none⟩) (by show b<w.heap.size; omega)).trans y7,(hW.cell (p:=⟨b,off+j * 10+8,none⟩) (by show b<w.heap.size; omega)).trans y8,(hW.cell (p:=⟨b,off+j * 10+9,none⟩) (by show b<w.heap.size; omega)).trans y9⟩)
   have HK1:=Lib.hid (fun (W:World) (hW:Below w.heap.size w W)=>rprintE_any rs[j].cond B _ W (hL1.below' hW hB) (Nat.le_trans hB hW.size))
   have HK2:=Lib.hid (fun (W:World) (hW:Below w.heap.size w W)=>rprintE_any rs[j].key B _ W (hL2.below' hW hB) (Nat.le_trans hB hW.size))
   rw [pc] at HK1
   rw [pk] at HK2
   change Hid (∀ W,Below w.heap.size w W→Calls _ _ _ W (Ret (.tuple #[.string (strT (wrE rs[j].cond)),.int .i64 0]) W)) at HK1
   change Hid (∀ W,Below w.heap.size w W→Calls _ _ _ W (Ret (.tuple #[.string (strT (wrE rs[j].key)),.int .i64 0]) W)) at HK2
   have HNX:Hid (printM (rs.take j)++ruleB rs[j]=printM (rs.take (j+1))):=Lib.hid (by unfold printM; rw [List.take_add_one,List.getElem?_eq_getElem hlt,List.flatMap_append]; simp only [Option.toList,List.flatMap_cons,List.flatMap_nil,List.append_nil])
   have HS:Hid (strT (printM (rs.take j)) ++ ⟨#[119,104,101,110,32]⟩++strT (wrE rs[j].cond) ++ ⟨#[32,98,121,32]⟩++strT (wrE rs[j].key) ++ ⟨#[59,10]⟩=strT (printM (rs.take (j+1)))):=Lib.hid (strT_of (by rw [← HNX.out]; simp only [app_list,strT_list]; simp [ruleB,whenL,byL]))
   have s1:=strT_size (printM (rs.take j))
   have s2:=strT_size (wrE rs[j].cond)
   have s3:=strT_size (wrE rs[j].key)
   clear pc pk HNX
   generalize strT (printM (rs.take j))=T0 at HS s1 ⊢
   generalize strT (wrE rs[j].cond)=ta at HS HK1 s2
   generalize strT (wrE rs[j].key)=tb at HS HK2 s3
   have b1:¬ 9223372036854775807<T0.size+5:=by omega
   have b2:¬ 9223372036854775807<T0.size+5+ta.size:=by omega
   have b3:¬ 9223372036854775807<T0.size+5+ta.size+4:=by omega
   have b4:¬ 9223372036854775807<T0.size+5+ta.size+4+tb.size:=by omega
   have b5:¬ 9223372036854775807<T0.size+5+ta.size+4+tb.size+2:=by omega
   unfold exC Ret at HK1 HK2
   obtain ⟨⟨z0,z1,z2,z3,z4⟩,-⟩:=HC.out wr HBW.out
   clear y0 y1 y2 y3 y4 y5 y6 y7 y8 y9 hL1 hL2 s1 s2 s3 lc lk hpl
   go_wp2_with fail
   refine (HK1.out _ HBW.out).mono ?_
   rintro e w5 ⟨rfl,hb5⟩
   clear z0 z1 z2 z3 z4 x0
   have HB5:=Lib.hid (HB.out.trans (hb5.mono HB.out.size))
   have HBW5:=Lib.hid (HBW.out.trans (hb5.mono HBW.out.size))
   clear hb5
   have x0:=(HO.out.next HB5.out).fst 0 _ rfl
   obtain ⟨-,z5,z6,z7,z8,z9⟩:=HC.out w5 HBW5.out
   go_wp2_with fail
   refine (HK2.out _ HBW5.out).mono ?_
   rintro e w6 ⟨rfl,hb6⟩
   clear z5 z6 z7 z8 z9 x0
   have HB6:=Lib.hid (HB5.out.trans (hb6.mono HB5.out.size))
   clear hb6
   go_wp2_with fail
   exact ⟨⟨j+1,by go_num,by first | exact congrArg Value.string HS.out | (rw [← HS.out]; rfl),by omega,HB6⟩,by simp [intOf]; omega⟩
  ·have hd1:decide ((j:Int)<(rs.length:Int))=false:=decide_eq_false (by omega)
   have hd2:decide (j<rs.length)=false:=decide_eq_false hlt
   have HJ:Hid (rs.take j=rs):=Lib.hid (List.take_of_length_le (by omega))
   generalize rs.take j=rt at HJ ⊢
   clear hlt
   go_wp2_with fail
   go_ret2
   exact ⟨by rw [HV.out,HJ.out]; rfl,HBW.out⟩
end Go.Proofs.YtmbffkemfepekaaGreatDoor

namespace Go.Proofs.YtmbffkemfepekaaGreatDoor
open Go.RowKit
theorem run_mapT {P:Program} {α β:Type} (f:α→β) (m:Sem α) (w:World):(f <$> m).run P w=(m.run P w).andThen fun a w=>.ok (f a) w:=by
 show (m >>= fun a=>pure (f a)).run P w=_
 rw [Sem.run_bind]; rfl
theorem results_c1 {fn:Func} {a:Tmp} {t:TypeId} (h:fn.results=#[.cell a t]) {tmps:Array Value} {P:Program} {w:World} {pa:Addr} {va:Value}
  (ha:tmps.getD a undef=.pointer (some pa)) (hva:(loadVar t pa).run P w=.ok va w):(results fn tmps).run P w=.ok va w:=by
 have hx:(asAddr (.pointer (some pa))).run P w=.ok pa w:=rfl
 have hp:∀ {α:Type} (x:α) (w:World),(pure x:Sem α).run P w=.ok x w:=fun _ _=>rfl
 unfold results
 rw [h]
 simp only [List.mapM_toArray,List.mapM_cons,List.mapM_nil,Sem.run_bind,run_mapT,ha,hx,hva,Result.andThen,hp]
 rfl
theorem results_c2t {fn:Func} {a b d:Tmp} {t:TypeId} (h:fn.results=#[.cell a t,.tmp b,.tmp d]) {tmps:Array Value} {P:Program} {w:World} {pa:Addr} {va vb vd:Value}
  (ha:tmps.getD a undef=.pointer (some pa)) (hva:(loadVar t pa).run P w=.ok va w) (hb:tmps.getD b undef=vb) (hd:tmps.getD d undef=vd):(results fn tmps).run P w=.ok (.tuple #[va,vb,vd]) w:=by
 have hx:(asAddr (.pointer (some pa))).run P w=.ok pa w:=rfl
 have hp:∀ {α:Type} (x:α) (w:World),(pure x:Sem α).run P w=.ok x w:=fun _ _=>rfl
 unfold results
 rw [h]
 simp only [List.mapM_toArray,List.mapM_cons,List.mapM_nil,Sem.run_bind,run_mapT,ha,hb,hd,hx,hva,Result.andThen,hp]
 rfl
/-- A token's cells. -/
theorem tk_at {w:World} {B:Nat} {A:Option Addr} {ts:List Tk} (h:Rd w B 4 A ts.length (tkCs ts)) {j:Nat} {t:Tk} (ht:ts[j]? = some t) :
  ∃ b off:Nat,A=some ⟨b,off,none⟩∧b<B∧w.cell? ⟨b,off+j * 4,none⟩=some (.int .i64 t.kind)∧w.cell? ⟨b,off+j * 4+1,none⟩=some (.string t.text)∧w.cell? ⟨b,off+j * 4+2,none⟩=some (.int .i64 t.val)∧w.cell? ⟨b,off+j * 4+3,none⟩=some (.int .i64 (t.pos:Nat)):=by
 obtain ⟨hj,e⟩:=List.getElem?_eq_some_iff.1 ht
 obtain ⟨b,off,hA,hb,hc⟩:=h.addr (by omega)
 have hs:∀ x:Tk,(tkC x).length=4:=fun _=>rfl
 have g (q:Nat) (hq:q<4):(tkCs ts)[j * 4+q]? = (tkC t)[q]?:=by rw [← e]; exact flat_at hs ts j hj q hq
 refine ⟨b,off,hA,hb,?_,?_,?_,?_⟩
 ·have:=hc (j * 4+0) _ ((g 0 (by omega)).trans rfl)
  simpa using this
 ·have:=hc (j * 4+1) _ ((g 1 (by omega)).trans rfl)
  simpa [Nat.add_assoc] using this
 ·have:=hc (j * 4+2) _ ((g 2 (by omega)).trans rfl)
  simpa [Nat.add_assoc] using this
 ·have:=hc (j * 4+3) _ ((g 3 (by omega)).trans rfl)
  simpa [Nat.add_assoc] using this
/-- The token that next returns: the zero token behind the end. -/
def nxT (ts:List Tk) (k:Nat):Tk:=(ts[k]?).getD ⟨0,ByteArray.empty,0,0⟩
theorem nxT_some {ts:List Tk} {k:Nat} {t:Tk} (h:ts[k]? = some t):nxT ts k=t:=by unfold nxT; rw [h]; rfl
theorem nxT_none {ts:List Tk} {k:Nat} (h:ts[k]? = none):nxT ts k=⟨0,ByteArray.empty,0,0⟩:=by unfold nxT; rw [h]; rfl
def tkV (t:Tk):Value:=.agg #[.int .i64 t.kind,.string t.text,.int .i64 t.val,.int .i64 (t.pos:Nat)]
set_option maxRecDepth 100000 in
set_option maxHeartbeats 3200000 in
theorem rnext_any (A:Option Addr) (c B:Nat) (ts:List Tk) (k:Nat) (w:World) (hR:Rd w B 4 A ts.length (tkCs ts)) (hB:B≤w.heap.size):Calls Tryz.prog 162 #[.slice A ts.length c,.int .i64 (k:Nat)] w (Ret (tkV (nxT ts k)) w):=by
 have hk0:(0:Int)≤(k:Int):=by omega
 have hO:=one_new w #[.int .i64 0,.string ⟨#[]⟩,.int .i64 0,.int .i64 0] 69
 have hF:∀ j,(w.alloc (.cells #[.int .i64 0,.string ⟨#[]⟩,.int .i64 0,.int .i64 0] 69)).frozen? ⟨w.heap.size,j,none⟩=false:=fun j=>by simp
 have hR1:Rd (w.alloc (.cells #[.int .i64 0,.string ⟨#[]⟩,.int .i64 0,.int .i64 0] 69)) B 4 A ts.length (tkCs ts):=hR.below' (below_alloc _ _) hB
 unfold Ret
 clear hR
 go_enter Tryz.func162,Tryz.ntmps162
 go_upto_region 1 with fail
 generalize w.alloc _=w1 at hO hF hR1 ⊢
 obtain ⟨d0,d1,d2,d3⟩:=bx4 hO.fst
 have f0:=hF 0
 have f1:=hF 1
 have f2:=hF 2
 have f3:=hF 3
 have HO:=Lib.hid hO
 by_cases hlt:k<ts.length
 ·have g1:decide ((k:Int)<(ts.length:Int))=true:=decide_eq_true (by omega)
  have g2:decide (k<ts.length)=true:=decide_eq_true hlt
  have g3:(k:Int)<(ts.length:Int):=by omega
  have ht:ts[k]? = some ts[k]:=List.getElem?_eq_getElem hlt
  obtain ⟨b,off,rfl,hb,x0,x1,x2,x3⟩:=tk_at hR1 ht
  have HV:=Lib.hid (nxT_some ht)
  generalize ts[k]=t at x0 x1 x2 x3 HV
  clear ht hR1 hO hF
  go_wp2_with fail
  obtain ⟨q0,q1,q2,q3⟩:=set4 (HO.out.fst 0 _ rfl) (HO.out.fst 1 _ rfl) (HO.out.fst 2 _ rfl) (HO.out.fst 3 _ rfl) (.int .i64 t.kind) (.string t.text) (.int .i64 t.val) (.int .i64 (t.pos:Nat))
  have hby:=set4_below HO.out.below (Nat.le_refl _) (.int .i64 t.kind) (.string t.text) (.int .i64 t.val) (.int .i64 (t.pos:Nat))
  generalize World.setCell _ _ _=w6 at q0 q1 q2 q3 hby ⊢
  refine bodyPost_ret (v:=.agg #[.int .i64 t.kind,.string t.text,.int .i64 t.val,.int .i64 (t.pos:Nat)]) (results_c1 rfl rfl (by go_simp)) rfl ⟨by rw [HV.out]; rfl,hby⟩
 ·have g1:decide ((k:Int)<(ts.length:Int))=false:=decide_eq_false (by omega)
  have g2:decide (k<ts.length)=false:=decide_eq_false hlt
  have HV:=Lib.hid (nxT_none (List.getElem?_eq_none_iff.2 (Nat.le_of_not_lt hlt)))
  clear hR1 hO hF
  go_wp2_with fail
  obtain ⟨q0,q1,q2,q3⟩:=set4 (HO.out.fst 0 _ rfl) (HO.out.fst 1 _ rfl) (HO.out.fst 2 _ rfl) (HO.out.fst 3 _ rfl) (.int .i64 0) (.string ⟨#[]⟩) (.int .i64 0) (.int .i64 0)
  have hby:=set4_below HO.out.below (Nat.le_refl _) (.int .i64 0) (.string ⟨#[]⟩) (.int .i64 0) (.int .i64 0)
  generalize World.setCell _ _ _=w6 at q0 q1 q2 q3 hby ⊢
  refine bodyPost_ret (v:=.agg #[.int .i64 0,.string ⟨#[]⟩,.int .i64 0,.int .i64 0]) (results_c1 rfl rfl (by go_simp)) rfl ⟨by rw [HV.out]; rfl,hby⟩
set_option maxRecDepth 100000 in
set_option maxHeartbeats 3200000 in
theorem ris_any (t:Tk) (g:ByteArray) (w:World):Calls Tryz.prog 190 #[tkV t,.string g] w (Ret (.bool (isS t g.data.toList)) w):=by
 have HR:Hid (isS t g.data.toList=(t.kind == 3 && t.text.data.toList == g.data.toList)):=Lib.hid rfl
 generalize isS t g.data.toList=b at HR ⊢
 have HL:Hid ((t.text.data.toList == g.data.toList)=(t.text == g)):=Lib.hid (by
  cases h:t.text == g with
  | true=>rw [MapKept.bytes_beq] at h; rw [h]; simp
  | false=>
   rw [← Bool.not_eq_true] at h ⊢
   intro h2
   apply h
   rw [MapKept.bytes_beq]
   have h3:t.text.data.toList=g.data.toList:=by simpa using h2
   have h4:=Array.toList_inj.1 h3
   cases ht:t.text with
   | mk x=>cases g with
    | mk y=>rw [ht] at h4; simp only at h4; rw [h4])
 rw [HL.out] at HR
 unfold tkV Ret
 have hO:=one_new w #[.int .i64 t.kind,.string t.text,.int .i64 t.val,.int .i64 (t.pos:Nat)] 69
 obtain ⟨kd,tx,vl,ps⟩:=t
 simp only at hO HR ⊢
 go_enter Tryz.func190,Tryz.ntmps190
 go_upto_region 1 with fail
 generalize w.alloc _=w1 at hO ⊢
 obtain ⟨d0,d1,d2,d3⟩:=bx4 hO.fst
 have HB:=Lib.hid hO.below
 clear hO HL
 by_cases h3:kd=3
 ·have e1:(kd == 3)=true:=by simpa using h3
  cases hq:tx == g with
  | true=>
   have hq2:(tx.toList == g.toList)=true:=by rw [← beq_toListBytes]; exact hq
   have HV:Hid (b=true):=Lib.hid (by rw [HR.out,e1,hq]; rfl)
   clear HR
   go_wp2_with fail
   go_ret
   exact ⟨by rw [HV.out]; rfl,HB.out⟩
  | false=>
   have hq2:(tx.toList == g.toList)=false:=by rw [← beq_toListBytes]; exact hq
   have HV:Hid (b=false):=Lib.hid (by rw [HR.out,e1,hq]; rfl)
   clear HR
   go_wp2_with fail
   go_ret
   exact ⟨by rw [HV.out]; rfl,HB.out⟩
 ·have e1:(kd == 3)=false:=by simpa using h3
  have HV:Hid (b=false):=Lib.hid (by rw [HR.out,e1]; rfl)
  clear HR
  go_wp2_with fail
  go_ret
  exact ⟨by rw [HV.out]; rfl,HB.out⟩
end Go.Proofs.YtmbffkemfepekaaGreatDoor

namespace Go.Proofs.YtmbffkemfepekaaGreatDoor
open Go.RowKit
def kwV:List Value:=kwL.map fun g=>.string ⟨g.toArray⟩
theorem kw_len:kwL.length=69:=by kernel_rfl
theorem kwV_at {j:Nat} (h:j<kwL.length):kwV[j]? = some (.string ⟨kwL[j].toArray⟩):=by
 unfold kwV
 rw [List.getElem?_map,List.getElem?_eq_getElem h]
 rfl
theorem kw_step {l:List UInt8} {j:Nat} {R:Bool} (h:j<kwL.length) (hR:(kwL.drop j).contains l=R):(kwL[j]=l→R=true)∧(¬ kwL[j]=l→(kwL.drop (j+1)).contains l=R):=by
 rw [List.drop_eq_getElem_cons h,List.contains_cons] at hR
 constructor
 ·intro e; rw [← hR,show (l == kwL[j])=true by simpa using e.symm]; rfl
 ·intro e; rw [← hR,show (l == kwL[j])=false by simpa using fun x=>e x.symm]; rfl
set_option maxRecDepth 100000 in
set_option maxHeartbeats 6400000 in
theorem rkw_any (s:ByteArray) (w:World):Calls Tryz.prog 189 #[.string s] w (Ret (.bool (kwB s)) w):=by
 obtain ⟨R,hR⟩:∃ R,R=kwB s:=⟨_,rfl⟩
 have HR:Hid ((kwL.drop 0).contains s.data.toList=R):=Lib.hid (by rw [hR]; rfl)
 rw [← hR]
 unfold Ret
 clear hR
 have hkl:=Lib.hid kw_len
 go_enter Tryz.func189,Tryz.ntmps189
 go_upto_region 2 with fail
 generalize hw1:w.alloc _=w1
 have hO:One w w1 kwV:=by rw [← hw1]; exact one_new w kwV.toArray _
 have HO:=Lib.hid hO
 clear hO hw1
 go_wp2_with fail
 go_loopw [4] (fun iv wr=>∃ j:Nat,iv=.int .i64 (j:Nat)∧j≤69∧Hid ((kwL.drop j).contains s.data.toList=R)∧Hid (Below w1.heap.size w1 wr)) (fun iv _=>69 - (intOf iv).toNat)
 case atStart=>exact ⟨0,rfl,by omega,HR,Lib.hid (Below.refl _ _)⟩
 case round=>
  obtain ⟨j,rfl,hj,HG,HB⟩:=hrel
  have hj0:(0:Int)≤(j:Int):=by omega
  have hOr:=HO.out.next HB.out
  have HBW:=Lib.hid hOr.below
  have hwr1:IntKind.i64.wrap ((j:Int)+1)=(j:Int)+1:=by rw [IntKind.wrap_i64]; omega
  by_cases hlt:j<69
  ·have hd1:decide ((j:Int)<69)=true:=decide_eq_true (by omega)
   have hd2:decide (j<69)=true:=decide_eq_true hlt
   have hj69:(j:Int)<69:=by omega
   have hjs:j<kwL.length:=by rw [hkl.out]; exact hlt
   have y0:=hOr.fst j _ (kwV_at hjs)
   have HST:=Lib.hid (kw_step hjs HG.out)
   obtain ⟨gb,hgb⟩:∃ gb:ByteArray,gb=⟨kwL[j].toArray⟩:=⟨_,rfl⟩
   have hgl:gb.data.toList=kwL[j]:=by rw [hgb]
   rw [← hgl,ba_list] at HST
   rw [← hgb] at y0
   clear hgl hgb hOr
   by_cases he:gb=s
   ·have hq:(gb == s)=true:=by rw [MapKept.bytes_beq]; exact he
    have hq2:(gb.toList == s.toList)=true:=by rw [← beq_toListBytes]; exact hq
    have HV:Hid (R=true):=Lib.hid (HST.out.1 he)
    clear he HST
    go_wp2_with fail
    go_ret
    exact ⟨by rw [HV.out]; rfl,HBW.out⟩
   ·have hq:(gb == s)=false:=by rw [← Bool.not_eq_true,MapKept.bytes_beq]; exact he
    have hq2:(gb.toList == s.toList)=false:=by rw [← beq_toListBytes]; exact hq
    have HV:=Lib.hid (HST.out.2 he)
    clear he HST
    go_wp2_with fail
    exact ⟨⟨j+1,by go_num,by omega,HV,HB⟩,by simp [intOf]; omega⟩
  ·have hd1:decide ((j:Int)<69)=false:=decide_eq_false (by omega)
   have hd2:decide (j<69)=false:=decide_eq_false hlt
   have HV:Hid (R=false):=Lib.hid (by rw [← HG.out,List.drop_of_length_le (by rw [hkl.out]; omega)]; rfl)
   go_wp2_with fail
   go_ret
   exact ⟨by rw [HV.out]; rfl,HBW.out⟩
theorem nm_no {s:ByteArray} {j:Nat} (h:j<s.size) (hf:inB (s[j]'h)=false):nmB s=false:=by
 have hm:=List.mem_of_getElem? (get_list s j h)
 unfold nmB nmL
 have:s.data.toList.all inB=false:=List.all_eq_false.2 ⟨_,hm,by simp [hf]⟩
 rw [this,Bool.and_false]
theorem nm_all {s:ByteArray} (h:∀ (q:Nat) (hq:q<s.size),inB (s[q]'hq)=true):nmB s=(decide (1≤s.size) && decide (s.size≤30) && (match s.data.toList with | []=>false | c::_=>letB c)):=by
 have hl:s.data.toList.length=s.size:=by rw [Array.length_toList]; rfl
 have:s.data.toList.all inB=true:=List.all_eq_true.2 (fun c hc=>by
  obtain ⟨i,hi,rfl⟩:=List.getElem_of_mem hc
  have h1:=h i (by omega)
  have h2:=get_list s i (by omega)
  rw [List.getElem?_eq_getElem hi,Option.some.injEq] at h2
  rw [h2]; exact h1)
 unfold nmB nmL
 rw [this,Bool.and_true,hl]
 rfl
set_option maxRecDepth 100000 in
set_option maxHeartbeats 6400000 in
theorem rname2_any (s:ByteArray) (hs:s.size≤9223372036854775807) (w:World):Calls Tryz.prog 188 #[.string s] w (RetP (.bool (nmB s)) w):=by
 have HNO:=Lib.hid (fun (j:Nat) (h:j<s.size)=>nm_no h)
 have HAL:Hid ((∀ (q:Nat) (hq:q<s.size),inB (s[q]'hq)=true)→_):=Lib.hid (fun h=>nm_all h)
 have HHD:Hid (∀ h:0<s.size,(match s.data.toList with | []=>false | c::_=>letB c)=letB (s[0]'h)):=Lib.hid (fun h=>by
  have h1:=run_at s 0 h
  rw [List.drop_zero] at h1
  rw [h1])
 have HS:=Lib.hid hs
 generalize nmB s=R at HNO HAL ⊢
 unfold RetP
 clear hs
 go_enter Tryz.func188,Tryz.ntmps188
 go_wp2_with fail
 go_loopw [3] (fun iv wr=>wr=w∧∃ j:Nat,iv=.int .i64 (j:Nat)∧j≤s.size∧Hid (∀ (q:Nat) (hq:q<s.size),q<j→inB (s[q]'hq)=true)) (fun iv _=>s.size - (intOf iv).toNat)
 case atStart=>exact ⟨rfl,0,rfl,Nat.zero_le _,Lib.hid (fun q _ h=>by omega)⟩
 case round=>
  obtain ⟨rfl,j,rfl,hj,HP⟩:=hrel
  have hj0:(0:Int)≤(j:Int):=by omega
  by_cases hlt:j<s.size
  ·have hd1:decide ((j:Int)<(s.size:Int))=true:=decide_eq_true (by omega)
   have hwr1:IntKind.i64.wrap ((j:Int)+1)=(j:Int)+1:=by rw [IntKind.wrap_i64]; have:=HS.out; omega
   have hd2:decide (j<s.size)=true:=decide_eq_true hlt
   have hjl:(j:Int)<(s.size:Int):=by omega
   have HI:=Lib.hid (fun W=>rin_any (s[j]'hlt) W)
   have HN1:=Lib.hid (HNO.out j hlt)
   have HN2:Hid (inB (s[j]'hlt)=true→∀ (q:Nat) (hq:q<s.size),q<j+1→inB (s[q]'hq)=true):=Lib.hid (fun h q hq h2=>by
    by_cases e:q=j
    ·subst e; exact h
    ·exact HP.out q hq (by omega))
   unfold RetP at HI
   generalize inB (s[j]'hlt)=b at HI HN1 HN2
   go_wp2_with fail
   refine (HI.out _).mono ?_
   rintro e W5 ⟨rfl,hw⟩
   obtain rfl:wr=W5:=hw.symm
   cases b with
   | true=>
    have HN3:=Lib.hid (HN2.out rfl)
    clear HN1 HN2 HI
    go_wp2_with fail
    exact ⟨⟨by first | rfl | exact True.intro,j+1,by go_num,by omega,HN3⟩,by simp [intOf]; omega⟩
   | false=>
    have HV:=Lib.hid (HN1.out rfl)
    clear HN1 HN2 HI
    go_wp2_with fail
    go_ret
    exact ⟨by rw [HV.out]; rfl,by first | rfl | exact True.intro⟩
  ·have hd1:decide ((j:Int)<(s.size:Int))=false:=decide_eq_false (by omega)
   have hd2:decide (j<s.size)=false:=decide_eq_false hlt
   have HR:=Lib.hid (HAL.out (fun q hq=>HP.out q hq (by omega)))
   clear HNO HAL
   by_cases h1:1≤s.size
   ·have a1:decide ((s.size:Int) ≥ 1)=true:=decide_eq_true (by omega)
    have a2:decide (1≤(s.size:Int))=true:=decide_eq_true (by omega)
    have a3:decide (1≤s.size)=true:=decide_eq_true h1
    have hz:(0:Int)<(s.size:Int):=by omega
    have HH:=Lib.hid (HHD.out h1)
    by_cases h30:s.size≤30
    ·have b1:decide ((s.size:Int)≤30)=true:=decide_eq_true (by omega)
     have b2:decide (s.size≤30)=true:=decide_eq_true h30
     have HL:=Lib.hid (fun W=>rltr_any (s[0]'h1) W)
     have HV:Hid (R=letB (s[0]'h1)):=Lib.hid (by rw [HR.out,HH.out,a3,b2]; rfl)
     unfold RetP at HL
     generalize letB (s[0]'h1)=b at HL HV HH
     clear HR
     go_wp2_with fail
     refine (HL.out _).mono ?_
     rintro e W5 ⟨rfl,hw⟩
     obtain rfl:wr=W5:=hw.symm
     go_wp2_with fail
     go_ret
     exact ⟨by rw [HV.out]; rfl,by first | rfl | exact True.intro⟩
    ·have b1:decide ((s.size:Int)≤30)=false:=decide_eq_false (by omega)
     have b2:decide (s.size≤30)=false:=decide_eq_false h30
     have HV:Hid (R=false):=Lib.hid (by rw [HR.out,b2]; simp)
     clear HR
     go_wp2_with fail
     go_ret
     exact ⟨by rw [HV.out]; rfl,by first | rfl | exact True.intro⟩
   ·have a1:decide ((s.size:Int) ≥ 1)=false:=decide_eq_false (by omega)
    have a2:decide (1≤(s.size:Int))=false:=decide_eq_false (by omega)
    have a3:decide (1≤s.size)=false:=decide_eq_false h1
    have HV:Hid (R=false):=Lib.hid (by rw [HR.out,a3]; simp)
    clear HR
    go_wp2_with fail
    go_ret
    exact ⟨by rw [HV.out]; rfl,by first | rfl | exact True.intro⟩
end Go.Proofs.YtmbffkemfepekaaGreatDoor

namespace Go.Proofs.YtmbffkemfepekaaGreatDoor
open Go.RowKit
/-- The operators in the reference's order, with their precedences. -/
def opTab:List (List UInt8 × Nat):=[([43],4),([45],4),([42],5),([47],5),([37],5),([61,61],3),([33,61],3),([60],3),([60,61],3),([62],3),([62,61],3),([38,38],2),([124,124],1)]
def opG:List (List UInt8 × Nat)→Nat→List UInt8→Int × Nat
 | [],_,_=>(0,0)
 | x::r,n,l=>if l=x.1 then ((n:Int),x.2) else opG r (n+1) l
theorem opS_eq (l:List UInt8):opS l=opG opTab 3 l:=by
 by_cases h0:l=[43]
 ·subst h0; rfl
 by_cases h1:l=[45]
 ·subst h1; rfl
 by_cases h2:l=[42]
 ·subst h2; rfl
 by_cases h3:l=[47]
 ·subst h3; rfl
 by_cases h4:l=[37]
 ·subst h4; rfl
 by_cases h5:l=[61,61]
 ·subst h5; rfl
 by_cases h6:l=[33,61]
 ·subst h6; rfl
 by_cases h7:l=[60]
 ·subst h7; rfl
 by_cases h8:l=[60,61]
 ·subst h8; rfl
 by_cases h9:l=[62]
 ·subst h9; rfl
 by_cases h10:l=[62,61]
 ·subst h10; rfl
 by_cases h11:l=[38,38]
 ·subst h11; rfl
 by_cases h12:l=[124,124]
 ·subst h12; rfl
 simp only [opTab,opG,opS,h0,h1,h2,h3,h4,h5,h6,h7,h8,h9,h10,h11,h12,if_false]
def opT (t:Tk):Int × Nat:=if t.kind=3 then opS t.text.data.toList else (0,0)
def opVs:List Value:=opTab.map fun x=>.string ⟨x.1.toArray⟩
def opVi:List Value:=opTab.map fun x=>.int .i64 (x.2:Nat)
theorem op_len:opTab.length=13:=rfl
theorem opVs_at {j:Nat} (h:j<opTab.length):opVs[j]? = some (.string ⟨opTab[j].1.toArray⟩):=by
 unfold opVs
 rw [List.getElem?_map,List.getElem?_eq_getElem h]
 rfl
theorem opVi_at {j:Nat} (h:j<opTab.length):opVi[j]? = some (.int .i64 (opTab[j].2:Nat)):=by
 unfold opVi
 rw [List.getElem?_map,List.getElem?_eq_getElem h]
 rfl
theorem op_step {l:List UInt8} {j n:Nat} {R:Int × Nat} (h:j<opTab.length) (hR:opG (opTab.drop j) n l=R):(opTab[j].1=l→R=((n:Int),opTab[j].2))∧(¬ opTab[j].1=l→opG (opTab.drop (j+1)) (n+1) l=R):=by
 rw [List.drop_eq_getElem_cons h,opG] at hR
 constructor
 ·intro h1; rw [if_pos h1.symm] at hR; exact hR.symm
 ·intro h1; rw [if_neg (fun e=>h1 e.symm)] at hR; exact hR
set_option maxRecDepth 100000 in
set_option maxHeartbeats 6400000 in
theorem ropr_any (t:Tk) (w:World):Calls Tryz.prog 161 #[tkV t] w (Ret (.tuple #[.int .i64 (opT t).1,.int .i64 ((opT t).2:Nat)]) w):=by
 obtain ⟨R,hR⟩:∃ R,R=opT t:=⟨_,rfl⟩
 have HR:Hid (R=if t.kind=3 then opG (opTab.drop 0) (3+0) t.text.data.toList else (0,0)):=Lib.hid (by rw [hR]; unfold opT; rw [opS_eq]; rfl)
 rw [← hR]
 unfold tkV Ret
 obtain ⟨kd,tx,vl,ps⟩:=t
 obtain ⟨R1,R2⟩:=R
 simp only at HR ⊢
 clear hR
 by_cases h3:kd=3
 rotate_left
 ·have hO:=one_new w #[.int .i64 kd,.string tx,.int .i64 vl,.int .i64 (ps:Nat)] 69
  have e1:(kd != 3)=true:=by simpa using h3
  have e2:(kd == 3)=false:=by simpa using h3
  have HV:Hid ((R1,R2)=((0:Int),0)):=Lib.hid (by rw [HR.out,if_neg h3])
  have HV1:Hid (R1=0):=Lib.hid (congrArg Prod.fst HV.out)
  have HV2:Hid (R2=0):=Lib.hid (congrArg Prod.snd HV.out)
  clear HR HV
  go_enter Tryz.func161,Tryz.ntmps161
  go_upto_region 1 with fail
  generalize w.alloc _=w1 at hO ⊢
  obtain ⟨d0,d1,d2,d3⟩:=bx4 hO.fst
  go_wp2_with fail
  go_ret2
  exact ⟨by rw [HV1.out,HV2.out]; rfl,hO.below⟩
 ·have HG0:Hid (opG (opTab.drop 0) (3+0) tx.data.toList=(R1,R2)):=Lib.hid (by rw [HR.out,if_pos h3])
  subst h3
  clear HR
  have hO0:=one_new w #[.int .i64 3,.string tx,.int .i64 vl,.int .i64 (ps:Nat)] 69
  have hO3:=three_new w #[.int .i64 3,.string tx,.int .i64 vl,.int .i64 (ps:Nat)] opVs.toArray opVi.toArray 69 9 3
  go_enter Tryz.func161,Tryz.ntmps161
  go_upto_region 1 with fail
  obtain ⟨d0,d1,d2,d3⟩:=bx4 hO0.fst
  go_upto_region 5 with fail
  clear d0 d1 d2 d3 hO0
  generalize hw1:World.alloc (World.alloc (World.alloc w _) _) _=w1
  have hO:Three w w1 [.int .i64 3,.string tx,.int .i64 vl,.int .i64 (ps:Nat)] opVs opVi:=by rw [← hw1]; exact hO3
  have HO:=Lib.hid hO
  clear hO hw1 hO3
  go_wp2_with fail
  go_loopw [6] (fun iv wr=>∃ j:Nat,iv=.int .i64 (j:Nat)∧j≤13∧Hid (opG (opTab.drop j) (3+j) tx.data.toList=(R1,R2))∧Hid (Below w1.heap.size w1 wr)) (fun iv _=>13 - (intOf iv).toNat)
  case atStart=>exact ⟨0,rfl,by omega,HG0,Lib.hid (Below.refl _ _)⟩
  case round=>
   obtain ⟨j,rfl,hj,HG,HB⟩:=hrel
   have hj0:(0:Int)≤(j:Int):=by omega
   have hOr:=HO.out.next HB.out
   have HBW:=Lib.hid hOr.two.below
   have hwr1:IntKind.i64.wrap ((j:Int)+1)=(j:Int)+1:=by rw [IntKind.wrap_i64]; omega
   have hwr3:IntKind.i64.wrap (3+(j:Int))=3+(j:Int):=by rw [IntKind.wrap_i64]; omega
   by_cases hlt:j<13
   ·have hd1:decide ((j:Int)<13)=true:=decide_eq_true (by omega)
    have hd2:decide (j<13)=true:=decide_eq_true hlt
    have hj13:(j:Int)<13:=by omega
    have hjs:j<opTab.length:=hlt
    obtain ⟨d0,d1,d2,d3⟩:=bx4 hOr.two.fst
    have y0:=hOr.two.snd j _ (opVs_at hjs)
    have z0:=hOr.thd j _ (opVi_at hjs)
    have HST:=Lib.hid (op_step hjs HG.out)
    obtain ⟨gb,hgb⟩:∃ gb:ByteArray,gb=⟨opTab[j].1.toArray⟩:=⟨_,rfl⟩
    have hgl:gb.data.toList=opTab[j].1:=by rw [hgb]
    rw [← hgl,ba_list] at HST
    rw [← hgb] at y0
    generalize opTab[j].2=pj at z0 HST
    clear hgl hgb hOr
    by_cases he:gb=tx
    ·have hq:(gb == tx)=true:=by rw [MapKept.bytes_beq]; exact he
     have hq2:(gb.toList == tx.toList)=true:=by rw [← beq_toListBytes]; exact hq
     have HV:=Lib.hid (HST.out.1 he)
     have HV1:Hid (R1=3+(j:Int)):=Lib.hid (by have:=congrArg Prod.fst HV.out; simp only at this; omega)
     have HV2:Hid (R2=pj):=Lib.hid (congrArg Prod.snd HV.out)
     clear he HST HV
     go_upto_region 8 with fail
     go_quiet (fail)
     go_upto_region 9 with fail
     go_quiet (fail)
     go_wp2_with fail
     go_ret2
     refine ⟨by rw [HV1.out,HV2.out]; rfl,?_⟩
     exact HBW.out.trans ((below_drews _ _ _).trans (below_drews _ _ _))
    ·have hq:(gb == tx)=false:=by rw [← Bool.not_eq_true,MapKept.bytes_beq]; exact he
     have hq2:(gb.toList == tx.toList)=false:=by rw [← beq_toListBytes]; exact hq
     have HV:Hid (opG (opTab.drop (j+1)) (3+(j+1)) tx.data.toList=(R1,R2)):=Lib.hid (HST.out.2 he)
     clear he HST
     go_upto_region 8 with fail
     go_quiet (fail)
     go_wp2_with fail
     exact ⟨⟨j+1,by go_num,by omega,HV,Lib.hid (HB.out.trans (below_drews _ _ _))⟩,by simp [intOf]; omega⟩
   ·have hd1:decide ((j:Int)<13)=false:=decide_eq_false (by omega)
    have hd2:decide (j<13)=false:=decide_eq_false hlt
    have HV:Hid ((R1,R2)=((0:Int),0)):=Lib.hid (by rw [← HG.out,List.drop_of_length_le (by rw [op_len]; omega)]; rfl)
    have HV1:Hid (R1=0):=Lib.hid (congrArg Prod.fst HV.out)
    have HV2:Hid (R2=0):=Lib.hid (congrArg Prod.snd HV.out)
    clear HV
    go_wp2_with fail
    go_ret2
    exact ⟨by rw [HV1.out,HV2.out]; rfl,HBW.out⟩
end Go.Proofs.YtmbffkemfepekaaGreatDoor
