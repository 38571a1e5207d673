/- nurseryref55.OrderOf, walked: the loops. Conditions: rules and attributes lie in memory, the attributes' bindings are valid. -/
import Derived.Test.YtedpopbaipnamaaGreatDoorPoRfd
import Derived.Deep.CutBlock
import Derived.Deep.CutRange
namespace Go.Proofs.YtedpopbaipnamaaGreatDoor
open Go.RowKit Go.Sort
set_option maxRecDepth 100000 in
set_option maxHeartbeats 12800000 in
theorem rorder_any (A:Option Addr) (c B:Nat) (rs:List Rl) (Al:Option Addr) (cl:Nat) (ls:List At) (w:World) (hP:LiesP w B A c rs) (hB:B≤w.heap.size) (hL:LiesA w B Al cl ls) (h12:ls.length≤12) (hV:∀ (k:Nat) (h:k<ls.length),BdOk ls[k].vals) :
  Calls Tryz.prog 26 #[.agg #[.slice A rs.length c],.slice Al ls.length cl] w (OrfR rs ls w):=by
 have HL:=Lib.hid hL
 have HRK:=Lib.hid (fun (W:World) (hW:Below w.heap.size w W) (k:Nat) (hk:k<ls.length) (Av:Option Addr) (cv:Nat) (hr:RdB w B Av ls[k].vals)=>rrank_any ls[k].vals (hV k hk) ls[k].task ls[k].case_ Av cv B A c B rs W (hP.below' hW hB) (Nat.le_trans hB hW.size) (Rd.below' hr hW hB) (Nat.le_trans hB hW.size))
 have hO:=two_new w #[.slice A rs.length c] #[] 24 3
 have hz:((w.alloc (.cells #[.slice A rs.length c] 24)).alloc (.cells #[] 3)).heap.size=w.heap.size+2:=by simp
 have H12:=Lib.hid h12
 have hall:=hL.len
 clear hP hL hV
 unfold OrfR
 unfold Ret at HRK
 obtain ⟨rk,hrk⟩:∃ rk:Nat→Int × Int,rk=fun i=>rankR rs (ls.getD i ⟨0,0,[]⟩).vals:=⟨_,rfl⟩
 rw [← hrk]
 have HK:=Lib.hid hrk
 clear hrk
 go_enter Tryz.func26,Tryz.ntmps26
 go_upto_region 2 with fail
 generalize World.alloc _ _=w1 at hO hz ⊢
 have HO:=Lib.hid hO
 clear hO
 go_wp2_with fail
 go_loopw [5,6,7,8,9,10,11] (fun ov i _ _ _ _ _ wr=>∃ (j go co:Nat) (ol:List Nat),ov=.slice (some ⟨go,0,none⟩) j co∧i=.int .i64 (j:Nat)∧j≤ls.length∧j≤co∧Hid (IsOrd j rk ol)∧Hid (Rd wr wr.heap.size 1 (some ⟨go,0,none⟩) j (ol.map natV))∧Hid (Below w1.heap.size w1 wr)) (fun _ i _ _ _ _ _ _=>ls.length - (intOf i).toNat)
 case atStart=>exact ⟨0,w.heap.size+1,0,[],rfl,rfl,Nat.zero_le _,Nat.le_refl _,Lib.hid ⟨List.Perm.refl _,List.Pairwise.nil⟩,Lib.hid (rd_zero rfl),Lib.hid (Below.refl _ _)⟩
 case round=>
  obtain ⟨j,go,co,ol,rfl,rfl,hj,hjc,HORD,HRD,HB⟩:=hrel
  have hj0:(0:Int)≤(j:Int):=by omega
  have hOr:=HO.out.next HB.out
  have HBW:=Lib.hid hOr.below
  have x0:=hOr.fst 0 _ rfl
  clear hOr
  by_cases hlt:j<ls.length
  ·have hd1:decide ((j:Int)<(ls.length:Int))=true:=decide_eq_true (by omega)
   have hwr1:IntKind.i64.wrap ((j:Int)+1)=(j:Int)+1:=by rw [IntKind.wrap_i64]; omega
   have hd2:decide (j<ls.length)=true:=decide_eq_true hlt
   have hjl:(j:Int)<(ls.length:Int):=by omega
   obtain ⟨hvl,bl,ofl,Av,cv,rfl,hbl,hrb,l0,l1,l2⟩:=HL.out.at_ j hlt
   have m0:=(HBW.out.cell (p:=⟨bl,ofl+j * 3,none⟩) (by show bl<w.heap.size; omega)).trans l0
   have m1:=(HBW.out.cell (p:=⟨bl,ofl+j * 3+1,none⟩) (by show bl<w.heap.size; omega)).trans l1
   have m2:=(HBW.out.cell (p:=⟨bl,ofl+j * 3+2,none⟩) (by show bl<w.heap.size; omega)).trans l2
   have HI1:=Lib.hid (fun d os=>HRK.out (grow (redrawn wr d) os) (HBW.out.trans ((below_regrown wr d os).mono HBW.out.size)) j hlt Av cv hrb)
   have HRJ:Hid (rankR rs ls[j].vals=rk j):=Lib.hid (by rw [HK.out]; simp [List.getD,List.getElem?_eq_getElem hlt])
   rw [HRJ.out] at HI1
   generalize ls[j].task=tj at m0 HI1
   generalize ls[j].case_=cj at m1 HI1
   generalize ls[j].vals.length=nj at m2 HI1
   generalize hr1:(rk j).1=r1 at HI1
   generalize hr2:(rk j).2=r2 at HI1
   have HR1:=Lib.hid hr1
   have HR2:=Lib.hid hr2
   have g0:=fun d os=>cell_regrown (w:=wr) x0 d os
   have g1:=fun d os=>cell_regrown (w:=wr) m0 d os
   have g2:=fun d os=>cell_regrown (w:=wr) m1 d os
   have g3:=fun d os=>cell_regrown (w:=wr) m2 d os
   clear l0 l1 l2 hvl hrb hr1 hr2
   go_upto_region 5 with fail
   refine wp_region_quiet_below (by kernel_rfl) (by kernel_rfl) ?_
   repeat (go_big_quiet_step (first | exact Calls.regrown_of (HI1.out _ _)))
   refine wpQuiet_nil ?_
   rintro _ ⟨pq,rfl⟩
   have hb4:=below_regrown wr pq.d pq.os
   generalize grow (redrawn wr pq.d) pq.os=w4 at hb4 ⊢
   clear g0 g1 g2 g3 x0 m0 m1 m2
   have HB4:=Lib.hid (HB.out.trans (hb4.mono HB.out.size))
   have HBW4:=Lib.hid (HBW.out.trans (hb4.mono HBW.out.size))
   have HRD4:=Lib.hid ((Rd.below' HRD.out hb4 (Nat.le_refl _)).more hb4.size)
   clear hb4 HI1
   have HLN:Hid (j=ol.length):=Lib.hid HORD.out.len.symm
   go_upto_block 2 with fail
   go_cut [9,10,11] (fun kv _ _ wx=>∃ k:Nat,kv=.int .i64 (k:Nat)∧k≤j∧Hid (∀ (q:Nat) (hq:q<ol.length),k≤q→ltR (rk j) (rk ol[q])=true)∧Hid (∀ (h:0<k) (h2:k - 1<ol.length),ltR (rk j) (rk ol[k - 1])=false)∧Hid (Below w4.heap.size w4 wx))
   case first=>
    go_wp2_with fail
    go_loopw [9,10,11] (fun kv _ _ wx=>∃ k:Nat,kv=.int .i64 (k:Nat)∧k≤j∧Hid (∀ (q:Nat) (hq:q<ol.length),k≤q→ltR (rk j) (rk ol[q])=true)∧Hid (Below w4.heap.size w4 wx)) (fun kv _ _ _=>(intOf kv).toNat)
    case atStart=>exact ⟨j,rfl,Nat.le_refl _,Lib.hid (fun q hq h=>by have:=HLN.out; omega),Lib.hid (Below.refl _ _)⟩
    case round=>
     obtain ⟨k,rfl,hkj,HHI,HBI⟩:=hrel
     have hk0:(0:Int)≤(k:Int):=by omega
     have HBX:=Lib.hid (HB4.out.trans (HBI.out.mono HB4.out.size))
     have HBXw:=Lib.hid (HBW4.out.trans (HBI.out.mono HBW4.out.size))
     have x0:=(HO.out.next HBX.out).fst 0 _ rfl
     by_cases hk:0<k
     ·have ha1:decide ((k:Int) > 0)=true:=decide_eq_true (by omega)
      have ha2:decide (0<(k:Int))=true:=decide_eq_true (by omega)
      have ha3:decide (0<k)=true:=decide_eq_true hk
      have hs1:IntKind.i64.wrap ((k:Int) - 1)=(k:Int) - 1:=by rw [IntKind.wrap_i64]; have:=H12.out; omega
      have hs2:(0:Int)≤(k:Int) - 1:=by omega
      have hs3:((k:Int) - 1).toNat=k - 1:=by omega
      have hs4:(k:Int) - 1<(j:Int):=by omega
      have hs5:((k:Int) - 1)=((k - 1:Nat):Int):=by omega
      have hko:k - 1<ol.length:=by have:=HLN.out; omega
      obtain ⟨b9,o9,e9,-,hc9⟩:=(Rd.below' HRD4.out HBI.out (Nat.le_refl _)).addr (by omega)
      injection e9 with e9
      injection e9 with e91 e92
      subst e91 e92
      have y0:=hc9 (k - 1) (natV ol[k - 1]) (by rw [List.getElem?_map,List.getElem?_eq_getElem hko]; rfl)
      rw [Nat.zero_add] at y0
      unfold natV at y0
      clear hc9
      obtain ⟨p,hp⟩:∃ p,p=ol[k - 1]:=⟨_,rfl⟩
      rw [← hp] at y0
      have hpl:p<ls.length:=by have:=HORD.out.mem (x:=p) (by rw [hp]; exact List.getElem_mem _); omega
      have hpli:(p:Int)<(ls.length:Int):=by omega
      have hp0:(0:Int)≤(p:Int):=by omega
      obtain ⟨hvl,bl',ofl',Av',cv',ebl,hbl',hrb,l0,l1,l2⟩:=HL.out.at_ p hpl
      injection ebl with ebl
      injection ebl with ebl1 ebl2
      subst ebl1 ebl2
      have m0:=(HBXw.out.cell (p:=⟨bl,ofl+p * 3,none⟩) (by show bl<w.heap.size; omega)).trans l0
      have m1:=(HBXw.out.cell (p:=⟨bl,ofl+p * 3+1,none⟩) (by show bl<w.heap.size; omega)).trans l1
      have m2:=(HBXw.out.cell (p:=⟨bl,ofl+p * 3+2,none⟩) (by show bl<w.heap.size; omega)).trans l2
      have HI2:=Lib.hid (fun d os=>HRK.out (grow (redrawn wr d) os) (HBXw.out.trans ((below_regrown wr d os).mono HBXw.out.size)) p hpl Av' cv' hrb)
      have HRP:Hid (rankR rs ls[p].vals=rk p):=Lib.hid (by rw [HK.out]; simp [List.getD,List.getElem?_eq_getElem hpl])
      rw [HRP.out] at HI2
      generalize ls[p].task=tp at m0 HI2
      generalize ls[p].case_=cp at m1 HI2
      generalize ls[p].vals.length=np at m2 HI2
      generalize ha1':(rk p).1=a1 at HI2
      generalize ha2':(rk p).2=a2 at HI2
      have HA1:=Lib.hid ha1'
      have HA2:=Lib.hid ha2'
      have HPK:=Lib.hid hp
      have g0:=fun d os=>cell_regrown (w:=wr) x0 d os
      have g1:=fun d os=>cell_regrown (w:=wr) m0 d os
      have g2:=fun d os=>cell_regrown (w:=wr) m1 d os
      have g3:=fun d os=>cell_regrown (w:=wr) m2 d os
      have g4:=fun d os=>cell_regrown (w:=wr) y0 d os
      clear l0 l1 l2 hvl hrb ha1' ha2' hp
      go_upto_region 8 with fail
      refine wp_region_quiet_below (by kernel_rfl) (by kernel_rfl) ?_
      repeat (go_big_quiet_step (first | exact Calls.regrown_of (HI2.out _ _)))
      refine wpQuiet_nil ?_
      rintro _ ⟨pq,rfl⟩
      have hb5:=below_regrown wr pq.d pq.os
      generalize grow (redrawn wr pq.d) pq.os=w5 at hb5 ⊢
      clear g0 g1 g2 g3 g4 x0 m0 m1 m2 y0
      have HBX:=Lib.hid (HBX.out.trans (hb5.mono HBX.out.size))
      have HB5:=Lib.hid (HBI.out.trans (hb5.mono HBI.out.size))
      have HRX:=Lib.hid ((Rd.below' HRD4.out HB5.out (Nat.le_refl _)).more HB5.out.size)
      clear hb5 HI2
      by_cases hc1:a1<r1
      ·have hc2:decide (a1<r1)=true:=decide_eq_true hc1
       have HLO:Hid (∀ (h:0<k) (h2:k - 1<ol.length),ltR (rk j) (rk ol[k - 1])=false):=Lib.hid (fun _ _=>by
        rw [Bool.eq_false_iff,Ne,ltR_iff,← HPK.out,HR1.out,HR2.out,HA1.out,HA2.out]; omega)
       go_wp2_with fail
       go_meet
       case rel=>exact ⟨k,rfl,hkj,HHI,HLO,HB5⟩
      ·have hc2:decide (a1<r1)=false:=decide_eq_false hc1
       by_cases hc3:a1=r1
       ·have hc4:(a1 == r1)=true:=by simp [hc3]
        by_cases hc5:a2≤r2
        ·have hc6:decide (a2≤r2)=true:=decide_eq_true hc5
         have HLO:Hid (∀ (h:0<k) (h2:k - 1<ol.length),ltR (rk j) (rk ol[k - 1])=false):=Lib.hid (fun _ _=>by
          rw [Bool.eq_false_iff,Ne,ltR_iff,← HPK.out,HR1.out,HR2.out,HA1.out,HA2.out]; omega)
         go_wp2_with fail
         go_meet
         case rel=>exact ⟨k,rfl,hkj,HHI,HLO,HB5⟩
        ·have hc6:decide (a2≤r2)=false:=decide_eq_false hc5
         go_wp2_with fail
         refine ⟨⟨k - 1,by rw [← hs5],by omega,Lib.hid (fun q hq h=>?_),HB5⟩,by simp [intOf]; omega⟩
         by_cases hqk:q=k - 1
         ·subst hqk
          rw [ltR_iff,← HPK.out,HR1.out,HR2.out,HA1.out,HA2.out]; omega
         ·exact HHI.out q hq (by omega)
       ·have hc4:(a1 == r1)=false:=by simp [hc3]
        go_wp2_with fail
        refine ⟨⟨k - 1,by rw [← hs5],by omega,Lib.hid (fun q hq h=>?_),HB5⟩,by simp [intOf]; omega⟩
        by_cases hqk:q=k - 1
        ·subst hqk
         rw [ltR_iff,← HPK.out,HR1.out,HR2.out,HA1.out,HA2.out]; omega
        ·exact HHI.out q hq (by omega)
     ·have hk0':k=0:=by omega
      have ha1:decide ((k:Int) > 0)=false:=decide_eq_false (by omega)
      have ha2:decide (0<(k:Int))=false:=decide_eq_false (by omega)
      have ha3:decide (0<k)=false:=decide_eq_false hk
      have HLO:Hid (∀ (h:0<k) (h2:k - 1<ol.length),ltR (rk j) (rk ol[k - 1])=false):=Lib.hid (fun h _=>absurd h hk)
      clear hk0'
      go_wp2_with fail
      go_meet
      case rel=>exact ⟨k,rfl,hkj,HHI,HLO,HBI⟩
   case rest=>
    obtain ⟨k,rfl,hkj,HHI,HLO0,HBI⟩:=hcut
    have hk0:(0:Int)≤(k:Int):=by omega
    have HLO:=Lib.hid (fun h:0<k=>HLO0.out h (by have:=HLN.out; omega))
    have HBX:=Lib.hid (HB4.out.trans (HBI.out.mono HB4.out.size))
    have HRX:=Lib.hid ((Rd.below' HRD4.out HBI.out (Nat.le_refl _)).more HBI.out.size)
    clear HLO0
    have HRF:=Lib.hid (fun (W:World) (hW:Below wc.heap.size wc W)=>Rd.below' HRX.out hW (Nat.le_refl _))
    have hkji:(k:Int)≤(j:Int):=by omega
    have hkc:(k:Int)≤(co:Int):=by omega
    go_upto_region 11 with fail
    by_cases hco:co=k
    ·have hjk:=Lib.hid (show j=k by omega)
     have hB:Below wc.heap.size wc wc.drew:=below_drews _ _ 1
     refine wp_region_held_drew (S:=fun _=>True) (by kernel_rfl) trivial (fun hHeld=>?_)
     generalize wc.drew=w0 at hB hHeld ⊢
     refine wpAnyH_take (i:=1) (v:=?_) rfl (by kernel_rfl) (by kernel_rfl) (by kernel_rfl) (fun _ _ _ h=>h) (Or.inl ⟨by kernel_rfl,?_⟩) (by assumption) ?_
     rotate_left
     ·intro w hSw; (try dsimp only at hSw); go_simp; with_reducible rfl
     try simp only [List.getElem_toArray,List.getElem_cons_succ,List.getElem_cons_zero,Act.put,List.setIfInBounds_toArray,List.set_cons_zero,List.set_cons_succ]
     refine wpAnyH_take (i:=2) (v:=?_) rfl (by kernel_rfl) (by kernel_rfl) (by kernel_rfl) (fun _ _ _ h=>h) (Or.inl ⟨by kernel_rfl,?_⟩) (by assumption) ?_
     rotate_left
     ·intro w hSw; (try dsimp only at hSw); go_simp; with_reducible rfl
     try simp only [List.getElem_toArray,List.getElem_cons_succ,List.getElem_cons_zero,Act.put,List.setIfInBounds_toArray,List.set_cons_zero,List.set_cons_succ]
     refine wpAnyH_take (i:=3) (v:=?_) rfl (by kernel_rfl) (by kernel_rfl) (by kernel_rfl) (fun _ _ _ h=>h) (Or.inl ⟨by kernel_rfl,?_⟩) (by assumption) ?_
     rotate_left
     ·intro w hSw; (try dsimp only at hSw); go_simp; with_reducible rfl
     try simp only [List.getElem_toArray,List.getElem_cons_succ,List.getElem_cons_zero,Act.put,List.setIfInBounds_toArray,List.set_cons_zero,List.set_cons_succ]
     refine wpAnyH_take (i:=5) (v:=?_) rfl (by kernel_rfl) (by kernel_rfl) (by kernel_rfl) (fun _ _ _ h=>h) (Or.inl ⟨by kernel_rfl,?_⟩) (by assumption) ?_
     rotate_left
     ·intro w hSw; (try dsimp only at hSw); go_simp; with_reducible rfl
     try simp only [List.getElem_toArray,List.getElem_cons_succ,List.getElem_cons_zero,Act.put,List.setIfInBounds_toArray,List.set_cons_zero,List.set_cons_succ]
     refine wpAnyH_take (i:=8) (v:=?_) rfl (by kernel_rfl) (by kernel_rfl) (by kernel_rfl) (fun _ _ _ h=>h) (Or.inl ⟨by kernel_rfl,?_⟩) (by assumption) ?_
     rotate_left
     ·intro w hSw; (try dsimp only at hSw); go_simp; with_reducible rfl
     try simp only [List.getElem_toArray,List.getElem_cons_succ,List.getElem_cons_zero,Act.put,List.setIfInBounds_toArray,List.set_cons_zero,List.set_cons_succ]
     refine wpAnyH_take (i:=9) (v:=?_) rfl (by kernel_rfl) (by kernel_rfl) (by kernel_rfl) (fun _ _ _ h=>h) (Or.inl ⟨by kernel_rfl,?_⟩) (by assumption) ?_
     rotate_left
     ·intro w hSw; (try dsimp only at hSw); go_simp; with_reducible rfl
     try simp only [List.getElem_toArray,List.getElem_cons_succ,List.getElem_cons_zero,Act.put,List.setIfInBounds_toArray,List.set_cons_zero,List.set_cons_succ]
     refine wpAnyH_take (i:=10) (v:=?_) rfl (by kernel_rfl) (by kernel_rfl) (by kernel_rfl) (fun _ _ _ h=>h) (Or.inl ⟨by kernel_rfl,?_⟩) (by assumption) ?_
     rotate_left
     ·intro w hSw; (try dsimp only at hSw); go_simp; with_reducible rfl
     try simp only [List.getElem_toArray,List.getElem_cons_succ,List.getElem_cons_zero,Act.put,List.setIfInBounds_toArray,List.set_cons_zero,List.set_cons_succ]
     refine wpAnyH_ready (rs:=[0,6]) (by kernel_rfl) (by simp) ?_
     refine (AllReadyH.cons rfl (fun K hK=>?_) (AllReadyH.cons rfl (fun K hK=>?_) AllReadyH.nil))
     ·clear hHeld
      go_simp
      have ho0:=own_new w0
      have hlb:=hB.size
      have hb0:w0.heap.size≤(w0.alloc (.cells #[] 3)).heap.size:=by simp
      replace hB:=hB.trans ((below_alloc w0 (.cells #[] 3)).mono hB.size)
      obtain ⟨base,hbase⟩:∃ base,base=w0.heap.size:=⟨_,rfl⟩
      generalize w0.alloc (.cells #[] 3)=Wa at hB ho0 hb0 ⊢
      rw [← hbase] at ho0 hlb hb0 ⊢
      clear hbase
      refine hK.out _ _ ?_ (fun hHeld=>?_)
      ·exact trivial
      clear hK K
      try simp only [List.getElem_toArray,List.getElem_cons_succ,List.getElem_cons_zero,Act.put,List.setIfInBounds_toArray,List.set_cons_zero,List.set_cons_succ]
      refine wpAnyH_ready (rs:=[4,6]) (by kernel_rfl) (by simp) ?_
      refine (AllReadyH.cons rfl (fun K hK=>?_) (AllReadyH.cons rfl (fun K hK=>?_) AllReadyH.nil))
      ·clear hHeld
       obtain ⟨v1,W1,hrun,ho1,hb1,hk1⟩:=app_nat (c:=k) ho0 (rd_take (HRF.out _ hB) HLN.out hkj) hb0 (by have:=H12.out; omega) 36
       refine step_app rfl (.tmp 60) (.tmp 63) _ rfl rfl rfl hrun ?_
       replace hB:=hB.trans (hb1.mono hlb)
       replace hb0:=Nat.le_trans hb0 hb1.size
       clear hrun hb1 hk1 ho0
       refine hK.out _ _ ?_ (fun hHeld=>?_)
       ·exact trivial
       clear hK K
       try simp only [List.getElem_toArray,List.getElem_cons_succ,List.getElem_cons_zero,Act.put,List.setIfInBounds_toArray,List.set_cons_zero,List.set_cons_succ]
       refine wpAnyH_ready (rs:=[6]) (by kernel_rfl) (by simp) ?_
       refine AllReadyH.cons rfl (fun K hK=>?_) AllReadyH.nil
       clear hHeld
       go_simp
       have hv6:=heap_alloc_new W1 (.cells #[.int .i64 (j:Nat)] 3)
       have hl6:W1.heap.size<(W1.alloc (.cells #[.int .i64 (j:Nat)] 3)).heap.size:=by simp
       replace ho1:=own_next ho1 (below_alloc W1 (.cells #[.int .i64 (j:Nat)] 3))
       replace hb0:=Nat.le_trans hb0 (below_alloc W1 (.cells #[.int .i64 (j:Nat)] 3)).size
       replace hB:=hB.trans ((below_alloc W1 (.cells #[.int .i64 (j:Nat)] 3)).mono hB.size)
       generalize W1.alloc (.cells #[.int .i64 (j:Nat)] 3)=Wb at hB hv6 hl6 ho1 hb0 ⊢
       refine hK.out _ _ ?_ (fun hHeld=>?_)
       ·exact trivial
       clear hK K
       try simp only [List.getElem_toArray,List.getElem_cons_succ,List.getElem_cons_zero,Act.put,List.setIfInBounds_toArray,List.set_cons_zero,List.set_cons_succ]
       refine wpAnyH_ready (rs:=[7]) (by kernel_rfl) (by simp) ?_
       refine AllReadyH.cons rfl (fun K hK=>?_) AllReadyH.nil
       clear hHeld
       obtain ⟨v2,W2,hrun,ho2,hb2,hk2⟩:=app_nat (c:=1) ho1 (rd_one hv6) hb0 (by have:=H12.out; omega) 36
       refine step_app rfl (.tmp 64) (.tmp 66) _ rfl rfl rfl hrun ?_
       replace hB:=hB.trans (hb2.mono hlb)
       replace hb0:=Nat.le_trans hb0 hb2.size
       clear hrun hb2 hk2 ho1 hv6 hl6
       refine hK.out _ _ ?_ (fun hHeld=>?_)
       ·exact trivial
       clear hK K
       try simp only [List.getElem_toArray,List.getElem_cons_succ,List.getElem_cons_zero,Act.put,List.setIfInBounds_toArray,List.set_cons_zero,List.set_cons_succ]
       refine wpAnyH_ready (rs:=[11]) (by kernel_rfl) (by simp) ?_
       refine AllReadyH.cons rfl (fun K hK=>?_) AllReadyH.nil
       clear hHeld
       obtain ⟨v3,W3,hrun,ho3,hb3,hk3⟩:=app_nat (c:=0) ho2 (rd_none (B:=0) (A:=some ⟨go,0,none⟩) (n:=j - k) (l:=ol.drop k) (by have:=hjk.out; omega) (List.drop_of_length_le (by have:=HLN.out; have:=hjk.out; omega))) hb0 (by have:=H12.out; omega) 36
       refine step_app rfl (.tmp 67) (.tmp 70) _ rfl rfl rfl hrun ?_
       replace hB:=hB.trans (hb3.mono hlb)
       clear hrun hb3 hk3 ho2 hlb hb0
       refine hK.out _ _ ?_ (fun hHeld=>?_)
       ·exact trivial
       clear hK K
       try simp only [List.getElem_toArray,List.getElem_cons_succ,List.getElem_cons_zero,Act.put,List.setIfInBounds_toArray,List.set_cons_zero,List.set_cons_succ]
       refine wpAnyH_ready (rs:=[12]) (by kernel_rfl) (by simp) ?_
       refine AllReadyH.cons rfl (fun K hK=>?_) AllReadyH.nil
       clear hHeld
       go_simp
       refine hK.out _ _ ?_ (fun hHeld=>?_)
       ·exact trivial
       clear hK K
       try simp only [List.getElem_toArray,List.getElem_cons_succ,List.getElem_cons_zero,Act.put,List.setIfInBounds_toArray,List.set_cons_zero,List.set_cons_succ]
       refine wpAnyH_done (by kernel_rfl) ?_ _
       try dsimp only [Exit.then]
       have hord:=HORD.out.ins k (by have:=HLN.out; omega) HHI.out HLO.out
       have hn3:0+k+1+(j - k)=j+1:=by omega
       have hl3:([]++ol.take k++[j])++ol.drop k=ol.take k++j::ol.drop k:=by simp
       rw [hn3,hl3] at ho3
       obtain ⟨g3,c3,rfl,-,hg3⟩:=ho3.form (by omega)
       have hj3:j+1≤c3:=own_cap ho3
       have HR3:=Lib.hid (Rd.of_own ho3)
       have HO3:=Lib.hid hord
       have HB3:=Lib.hid (HBX.out.trans (hB.mono HBX.out.size))
       clear ho3 hord hg3 hB
       go_wp2_with fail
       exact ⟨⟨j+1,g3,c3,_,rfl,by go_num,by omega,hj3,HO3,HR3,HB3⟩,by simp [intOf]; omega⟩
      ·clear hHeld
       go_simp
       have hv6:=heap_alloc_new Wa (.cells #[.int .i64 (j:Nat)] 3)
       have hl6:Wa.heap.size<(Wa.alloc (.cells #[.int .i64 (j:Nat)] 3)).heap.size:=by simp
       have hne6:(Value.slice (some ⟨base,0,none⟩) 0 0).ownBlock≠some Wa.heap.size:=fun e=>by have:=World.ownsRow.lt ho0 _ e; omega
       replace ho0:=own_next ho0 (below_alloc Wa (.cells #[.int .i64 (j:Nat)] 3))
       replace hb0:=Nat.le_trans hb0 (below_alloc Wa (.cells #[.int .i64 (j:Nat)] 3)).size
       replace hB:=hB.trans ((below_alloc Wa (.cells #[.int .i64 (j:Nat)] 3)).mono hB.size)
       generalize Wa.alloc (.cells #[.int .i64 (j:Nat)] 3)=Wb at hB hv6 hl6 ho0 hb0 ⊢
       refine hK.out _ _ ?_ (fun hHeld=>?_)
       ·exact trivial
       clear hK K
       try simp only [List.getElem_toArray,List.getElem_cons_succ,List.getElem_cons_zero,Act.put,List.setIfInBounds_toArray,List.set_cons_zero,List.set_cons_succ]
       refine wpAnyH_ready (rs:=[4]) (by kernel_rfl) (by simp) ?_
       refine AllReadyH.cons rfl (fun K hK=>?_) AllReadyH.nil
       clear hHeld
       obtain ⟨v1,W1,hrun,ho1,hb1,hk1⟩:=app_nat (c:=k) ho0 (rd_take (HRF.out _ hB) HLN.out hkj) hb0 (by have:=H12.out; omega) 36
       refine step_app rfl (.tmp 60) (.tmp 63) _ rfl rfl rfl hrun ?_
       replace hv6:=(hk1 _ hl6 hne6).trans hv6
       replace hl6:=Nat.lt_of_lt_of_le hl6 hb1.size
       clear hne6
       replace hB:=hB.trans (hb1.mono hlb)
       replace hb0:=Nat.le_trans hb0 hb1.size
       clear hrun hb1 hk1 ho0
       refine hK.out _ _ ?_ (fun hHeld=>?_)
       ·exact trivial
       clear hK K
       try simp only [List.getElem_toArray,List.getElem_cons_succ,List.getElem_cons_zero,Act.put,List.setIfInBounds_toArray,List.set_cons_zero,List.set_cons_succ]
       refine wpAnyH_ready (rs:=[7]) (by kernel_rfl) (by simp) ?_
       refine AllReadyH.cons rfl (fun K hK=>?_) AllReadyH.nil
       clear hHeld
       obtain ⟨v2,W2,hrun,ho2,hb2,hk2⟩:=app_nat (c:=1) ho1 (rd_one hv6) hb0 (by have:=H12.out; omega) 36
       refine step_app rfl (.tmp 64) (.tmp 66) _ rfl rfl rfl hrun ?_
       replace hB:=hB.trans (hb2.mono hlb)
       replace hb0:=Nat.le_trans hb0 hb2.size
       clear hrun hb2 hk2 ho1 hv6 hl6
       refine hK.out _ _ ?_ (fun hHeld=>?_)
       ·exact trivial
       clear hK K
       try simp only [List.getElem_toArray,List.getElem_cons_succ,List.getElem_cons_zero,Act.put,List.setIfInBounds_toArray,List.set_cons_zero,List.set_cons_succ]
       refine wpAnyH_ready (rs:=[11]) (by kernel_rfl) (by simp) ?_
       refine AllReadyH.cons rfl (fun K hK=>?_) AllReadyH.nil
       clear hHeld
       obtain ⟨v3,W3,hrun,ho3,hb3,hk3⟩:=app_nat (c:=0) ho2 (rd_none (B:=0) (A:=some ⟨go,0,none⟩) (n:=j - k) (l:=ol.drop k) (by have:=hjk.out; omega) (List.drop_of_length_le (by have:=HLN.out; have:=hjk.out; omega))) hb0 (by have:=H12.out; omega) 36
       refine step_app rfl (.tmp 67) (.tmp 70) _ rfl rfl rfl hrun ?_
       replace hB:=hB.trans (hb3.mono hlb)
       clear hrun hb3 hk3 ho2 hlb hb0
       refine hK.out _ _ ?_ (fun hHeld=>?_)
       ·exact trivial
       clear hK K
       try simp only [List.getElem_toArray,List.getElem_cons_succ,List.getElem_cons_zero,Act.put,List.setIfInBounds_toArray,List.set_cons_zero,List.set_cons_succ]
       refine wpAnyH_ready (rs:=[12]) (by kernel_rfl) (by simp) ?_
       refine AllReadyH.cons rfl (fun K hK=>?_) AllReadyH.nil
       clear hHeld
       go_simp
       refine hK.out _ _ ?_ (fun hHeld=>?_)
       ·exact trivial
       clear hK K
       try simp only [List.getElem_toArray,List.getElem_cons_succ,List.getElem_cons_zero,Act.put,List.setIfInBounds_toArray,List.set_cons_zero,List.set_cons_succ]
       refine wpAnyH_done (by kernel_rfl) ?_ _
       try dsimp only [Exit.then]
       have hord:=HORD.out.ins k (by have:=HLN.out; omega) HHI.out HLO.out
       have hn3:0+k+1+(j - k)=j+1:=by omega
       have hl3:([]++ol.take k++[j])++ol.drop k=ol.take k++j::ol.drop k:=by simp
       rw [hn3,hl3] at ho3
       obtain ⟨g3,c3,rfl,-,hg3⟩:=ho3.form (by omega)
       have hj3:j+1≤c3:=own_cap ho3
       have HR3:=Lib.hid (Rd.of_own ho3)
       have HO3:=Lib.hid hord
       have HB3:=Lib.hid (HBX.out.trans (hB.mono HBX.out.size))
       clear ho3 hord hg3 hB
       go_wp2_with fail
       exact ⟨⟨j+1,g3,c3,_,rfl,by go_num,by omega,hj3,HO3,HR3,HB3⟩,by simp [intOf]; omega⟩
     ·clear hHeld
      go_simp
      have hv6:=heap_alloc_new w0 (.cells #[.int .i64 (j:Nat)] 3)
      have hl6:w0.heap.size<(w0.alloc (.cells #[.int .i64 (j:Nat)] 3)).heap.size:=by simp
      replace hB:=hB.trans ((below_alloc w0 (.cells #[.int .i64 (j:Nat)] 3)).mono hB.size)
      generalize w0.alloc (.cells #[.int .i64 (j:Nat)] 3)=Wb at hB hv6 hl6 ⊢
      refine hK.out _ _ ?_ (fun hHeld=>?_)
      ·exact trivial
      clear hK K
      try simp only [List.getElem_toArray,List.getElem_cons_succ,List.getElem_cons_zero,Act.put,List.setIfInBounds_toArray,List.set_cons_zero,List.set_cons_succ]
      refine wpAnyH_ready (rs:=[0]) (by kernel_rfl) (by simp) ?_
      refine AllReadyH.cons rfl (fun K hK=>?_) AllReadyH.nil
      clear hHeld
      go_simp
      have ho0:=own_new Wb
      have hlb:=hB.size
      have hb0:Wb.heap.size≤(Wb.alloc (.cells #[] 3)).heap.size:=by simp
      replace hv6:=((below_alloc Wb (.cells #[] 3)).block _ hl6).trans hv6
      have hne6:(Value.slice (some ⟨Wb.heap.size,0,none⟩) 0 0).ownBlock≠some w0.heap.size:=fun e=>by simp only [Value.ownBlock,Option.some.injEq] at e; omega
      replace hl6:=Nat.lt_of_lt_of_le hl6 hb0
      replace hB:=hB.trans ((below_alloc Wb (.cells #[] 3)).mono hB.size)
      obtain ⟨base,hbase⟩:∃ base,base=Wb.heap.size:=⟨_,rfl⟩
      generalize Wb.alloc (.cells #[] 3)=Wa at hB ho0 hb0 hv6 hl6 ⊢
      rw [← hbase] at ho0 hlb hb0 hne6 ⊢
      clear hbase
      refine hK.out _ _ ?_ (fun hHeld=>?_)
      ·exact trivial
      clear hK K
      try simp only [List.getElem_toArray,List.getElem_cons_succ,List.getElem_cons_zero,Act.put,List.setIfInBounds_toArray,List.set_cons_zero,List.set_cons_succ]
      refine wpAnyH_ready (rs:=[4]) (by kernel_rfl) (by simp) ?_
      refine AllReadyH.cons rfl (fun K hK=>?_) AllReadyH.nil
      clear hHeld
      obtain ⟨v1,W1,hrun,ho1,hb1,hk1⟩:=app_nat (c:=k) ho0 (rd_take (HRF.out _ hB) HLN.out hkj) hb0 (by have:=H12.out; omega) 36
      refine step_app rfl (.tmp 60) (.tmp 63) _ rfl rfl rfl hrun ?_
      replace hv6:=(hk1 _ hl6 hne6).trans hv6
      replace hl6:=Nat.lt_of_lt_of_le hl6 hb1.size
      clear hne6
      replace hB:=hB.trans (hb1.mono hlb)
      replace hb0:=Nat.le_trans hb0 hb1.size
      clear hrun hb1 hk1 ho0
      refine hK.out _ _ ?_ (fun hHeld=>?_)
      ·exact trivial
      clear hK K
      try simp only [List.getElem_toArray,List.getElem_cons_succ,List.getElem_cons_zero,Act.put,List.setIfInBounds_toArray,List.set_cons_zero,List.set_cons_succ]
      refine wpAnyH_ready (rs:=[7]) (by kernel_rfl) (by simp) ?_
      refine AllReadyH.cons rfl (fun K hK=>?_) AllReadyH.nil
      clear hHeld
      obtain ⟨v2,W2,hrun,ho2,hb2,hk2⟩:=app_nat (c:=1) ho1 (rd_one hv6) hb0 (by have:=H12.out; omega) 36
      refine step_app rfl (.tmp 64) (.tmp 66) _ rfl rfl rfl hrun ?_
      replace hB:=hB.trans (hb2.mono hlb)
      replace hb0:=Nat.le_trans hb0 hb2.size
      clear hrun hb2 hk2 ho1 hv6 hl6
      refine hK.out _ _ ?_ (fun hHeld=>?_)
      ·exact trivial
      clear hK K
      try simp only [List.getElem_toArray,List.getElem_cons_succ,List.getElem_cons_zero,Act.put,List.setIfInBounds_toArray,List.set_cons_zero,List.set_cons_succ]
      refine wpAnyH_ready (rs:=[11]) (by kernel_rfl) (by simp) ?_
      refine AllReadyH.cons rfl (fun K hK=>?_) AllReadyH.nil
      clear hHeld
      obtain ⟨v3,W3,hrun,ho3,hb3,hk3⟩:=app_nat (c:=0) ho2 (rd_none (B:=0) (A:=some ⟨go,0,none⟩) (n:=j - k) (l:=ol.drop k) (by have:=hjk.out; omega) (List.drop_of_length_le (by have:=HLN.out; have:=hjk.out; omega))) hb0 (by have:=H12.out; omega) 36
      refine step_app rfl (.tmp 67) (.tmp 70) _ rfl rfl rfl hrun ?_
      replace hB:=hB.trans (hb3.mono hlb)
      clear hrun hb3 hk3 ho2 hlb hb0
      refine hK.out _ _ ?_ (fun hHeld=>?_)
      ·exact trivial
      clear hK K
      try simp only [List.getElem_toArray,List.getElem_cons_succ,List.getElem_cons_zero,Act.put,List.setIfInBounds_toArray,List.set_cons_zero,List.set_cons_succ]
      refine wpAnyH_ready (rs:=[12]) (by kernel_rfl) (by simp) ?_
      refine AllReadyH.cons rfl (fun K hK=>?_) AllReadyH.nil
      clear hHeld
      go_simp
      refine hK.out _ _ ?_ (fun hHeld=>?_)
      ·exact trivial
      clear hK K
      try simp only [List.getElem_toArray,List.getElem_cons_succ,List.getElem_cons_zero,Act.put,List.setIfInBounds_toArray,List.set_cons_zero,List.set_cons_succ]
      refine wpAnyH_done (by kernel_rfl) ?_ _
      try dsimp only [Exit.then]
      have hord:=HORD.out.ins k (by have:=HLN.out; omega) HHI.out HLO.out
      have hn3:0+k+1+(j - k)=j+1:=by omega
      have hl3:([]++ol.take k++[j])++ol.drop k=ol.take k++j::ol.drop k:=by simp
      rw [hn3,hl3] at ho3
      obtain ⟨g3,c3,rfl,-,hg3⟩:=ho3.form (by omega)
      have hj3:j+1≤c3:=own_cap ho3
      have HR3:=Lib.hid (Rd.of_own ho3)
      have HO3:=Lib.hid hord
      have HB3:=Lib.hid (HBX.out.trans (hB.mono HBX.out.size))
      clear ho3 hord hg3 hB
      go_wp2_with fail
      exact ⟨⟨j+1,g3,c3,_,rfl,by go_num,by omega,hj3,HO3,HR3,HB3⟩,by simp [intOf]; omega⟩
    ·have hco2:¬ (k=co):=fun e=>hco e.symm
     have hB:Below wc.heap.size wc wc.drew:=below_drews _ _ 1
     refine wp_region_held_drew (S:=fun _=>True) (by kernel_rfl) trivial (fun hHeld=>?_)
     generalize wc.drew=w0 at hB hHeld ⊢
     refine wpAnyH_take (i:=1) (v:=?_) rfl (by kernel_rfl) (by kernel_rfl) (by kernel_rfl) (fun _ _ _ h=>h) (Or.inl ⟨by kernel_rfl,?_⟩) (by assumption) ?_
     rotate_left
     ·intro w hSw; (try dsimp only at hSw); go_simp; with_reducible rfl
     try simp only [List.getElem_toArray,List.getElem_cons_succ,List.getElem_cons_zero,Act.put,List.setIfInBounds_toArray,List.set_cons_zero,List.set_cons_succ]
     refine wpAnyH_take (i:=2) (v:=?_) rfl (by kernel_rfl) (by kernel_rfl) (by kernel_rfl) (fun _ _ _ h=>h) (Or.inl ⟨by kernel_rfl,?_⟩) (by assumption) ?_
     rotate_left
     ·intro w hSw; (try dsimp only at hSw); go_simp; with_reducible rfl
     try simp only [List.getElem_toArray,List.getElem_cons_succ,List.getElem_cons_zero,Act.put,List.setIfInBounds_toArray,List.set_cons_zero,List.set_cons_succ]
     refine wpAnyH_take (i:=3) (v:=?_) rfl (by kernel_rfl) (by kernel_rfl) (by kernel_rfl) (fun _ _ _ h=>h) (Or.inl ⟨by kernel_rfl,?_⟩) (by assumption) ?_
     rotate_left
     ·intro w hSw; (try dsimp only at hSw); go_simp; with_reducible rfl
     try simp only [List.getElem_toArray,List.getElem_cons_succ,List.getElem_cons_zero,Act.put,List.setIfInBounds_toArray,List.set_cons_zero,List.set_cons_succ]
     refine wpAnyH_take (i:=5) (v:=?_) rfl (by kernel_rfl) (by kernel_rfl) (by kernel_rfl) (fun _ _ _ h=>h) (Or.inl ⟨by kernel_rfl,?_⟩) (by assumption) ?_
     rotate_left
     ·intro w hSw; (try dsimp only at hSw); go_simp; with_reducible rfl
     try simp only [List.getElem_toArray,List.getElem_cons_succ,List.getElem_cons_zero,Act.put,List.setIfInBounds_toArray,List.set_cons_zero,List.set_cons_succ]
     refine wpAnyH_take (i:=8) (v:=?_) rfl (by kernel_rfl) (by kernel_rfl) (by kernel_rfl) (fun _ _ _ h=>h) (Or.inl ⟨by kernel_rfl,?_⟩) (by assumption) ?_
     rotate_left
     ·intro w hSw; (try dsimp only at hSw); go_simp; with_reducible rfl
     try simp only [List.getElem_toArray,List.getElem_cons_succ,List.getElem_cons_zero,Act.put,List.setIfInBounds_toArray,List.set_cons_zero,List.set_cons_succ]
     refine wpAnyH_take (i:=9) (v:=?_) rfl (by kernel_rfl) (by kernel_rfl) (by kernel_rfl) (fun _ _ _ h=>h) (Or.inl ⟨by kernel_rfl,?_⟩) (by assumption) ?_
     rotate_left
     ·intro w hSw; (try dsimp only at hSw); go_simp; with_reducible rfl
     try simp only [List.getElem_toArray,List.getElem_cons_succ,List.getElem_cons_zero,Act.put,List.setIfInBounds_toArray,List.set_cons_zero,List.set_cons_succ]
     refine wpAnyH_take (i:=10) (v:=?_) rfl (by kernel_rfl) (by kernel_rfl) (by kernel_rfl) (fun _ _ _ h=>h) (Or.inl ⟨by kernel_rfl,?_⟩) (by assumption) ?_
     rotate_left
     ·intro w hSw; (try dsimp only at hSw); go_simp; with_reducible rfl
     try simp only [List.getElem_toArray,List.getElem_cons_succ,List.getElem_cons_zero,Act.put,List.setIfInBounds_toArray,List.set_cons_zero,List.set_cons_succ]
     refine wpAnyH_ready (rs:=[0,6]) (by kernel_rfl) (by simp) ?_
     refine (AllReadyH.cons rfl (fun K hK=>?_) (AllReadyH.cons rfl (fun K hK=>?_) AllReadyH.nil))
     ·clear hHeld
      go_simp
      have ho0:=own_new w0
      have hlb:=hB.size
      have hb0:w0.heap.size≤(w0.alloc (.cells #[] 3)).heap.size:=by simp
      replace hB:=hB.trans ((below_alloc w0 (.cells #[] 3)).mono hB.size)
      obtain ⟨base,hbase⟩:∃ base,base=w0.heap.size:=⟨_,rfl⟩
      generalize w0.alloc (.cells #[] 3)=Wa at hB ho0 hb0 ⊢
      rw [← hbase] at ho0 hlb hb0 ⊢
      clear hbase
      refine hK.out _ _ ?_ (fun hHeld=>?_)
      ·exact trivial
      clear hK K
      try simp only [List.getElem_toArray,List.getElem_cons_succ,List.getElem_cons_zero,Act.put,List.setIfInBounds_toArray,List.set_cons_zero,List.set_cons_succ]
      refine wpAnyH_ready (rs:=[4,6]) (by kernel_rfl) (by simp) ?_
      refine (AllReadyH.cons rfl (fun K hK=>?_) (AllReadyH.cons rfl (fun K hK=>?_) AllReadyH.nil))
      ·clear hHeld
       obtain ⟨v1,W1,hrun,ho1,hb1,hk1⟩:=app_nat (c:=co) ho0 (rd_take (HRF.out _ hB) HLN.out hkj) hb0 (by have:=H12.out; omega) 36
       refine step_app rfl (.tmp 60) (.tmp 63) _ rfl rfl rfl hrun ?_
       replace hB:=hB.trans (hb1.mono hlb)
       replace hb0:=Nat.le_trans hb0 hb1.size
       clear hrun hb1 hk1 ho0
       refine hK.out _ _ ?_ (fun hHeld=>?_)
       ·exact trivial
       clear hK K
       try simp only [List.getElem_toArray,List.getElem_cons_succ,List.getElem_cons_zero,Act.put,List.setIfInBounds_toArray,List.set_cons_zero,List.set_cons_succ]
       refine wpAnyH_ready (rs:=[6]) (by kernel_rfl) (by simp) ?_
       refine AllReadyH.cons rfl (fun K hK=>?_) AllReadyH.nil
       clear hHeld
       go_simp
       have hv6:=heap_alloc_new W1 (.cells #[.int .i64 (j:Nat)] 3)
       have hl6:W1.heap.size<(W1.alloc (.cells #[.int .i64 (j:Nat)] 3)).heap.size:=by simp
       replace ho1:=own_next ho1 (below_alloc W1 (.cells #[.int .i64 (j:Nat)] 3))
       replace hb0:=Nat.le_trans hb0 (below_alloc W1 (.cells #[.int .i64 (j:Nat)] 3)).size
       replace hB:=hB.trans ((below_alloc W1 (.cells #[.int .i64 (j:Nat)] 3)).mono hB.size)
       generalize W1.alloc (.cells #[.int .i64 (j:Nat)] 3)=Wb at hB hv6 hl6 ho1 hb0 ⊢
       refine hK.out _ _ ?_ (fun hHeld=>?_)
       ·exact trivial
       clear hK K
       try simp only [List.getElem_toArray,List.getElem_cons_succ,List.getElem_cons_zero,Act.put,List.setIfInBounds_toArray,List.set_cons_zero,List.set_cons_succ]
       refine wpAnyH_ready (rs:=[7]) (by kernel_rfl) (by simp) ?_
       refine AllReadyH.cons rfl (fun K hK=>?_) AllReadyH.nil
       clear hHeld
       obtain ⟨v2,W2,hrun,ho2,hb2,hk2⟩:=app_nat (c:=1) ho1 (rd_one hv6) hb0 (by have:=H12.out; omega) 36
       refine step_app rfl (.tmp 64) (.tmp 66) _ rfl rfl rfl hrun ?_
       replace hB:=hB.trans (hb2.mono hlb)
       replace hb0:=Nat.le_trans hb0 hb2.size
       clear hrun hb2 hk2 ho1 hv6 hl6
       refine hK.out _ _ ?_ (fun hHeld=>?_)
       ·exact trivial
       clear hK K
       try simp only [List.getElem_toArray,List.getElem_cons_succ,List.getElem_cons_zero,Act.put,List.setIfInBounds_toArray,List.set_cons_zero,List.set_cons_succ]
       refine wpAnyH_ready (rs:=[11]) (by kernel_rfl) (by simp) ?_
       refine AllReadyH.cons rfl (fun K hK=>?_) AllReadyH.nil
       clear hHeld
       obtain ⟨v3,W3,hrun,ho3,hb3,hk3⟩:=app_nat (c:=co - k) ho2 (rd_drop (HRF.out _ hB) HLN.out hkj) hb0 (by have:=H12.out; omega) 36
       refine step_app rfl (.tmp 67) (.tmp 70) _ rfl rfl rfl hrun ?_
       replace hB:=hB.trans (hb3.mono hlb)
       clear hrun hb3 hk3 ho2 hlb hb0
       refine hK.out _ _ ?_ (fun hHeld=>?_)
       ·exact trivial
       clear hK K
       try simp only [List.getElem_toArray,List.getElem_cons_succ,List.getElem_cons_zero,Act.put,List.setIfInBounds_toArray,List.set_cons_zero,List.set_cons_succ]
       refine wpAnyH_ready (rs:=[12]) (by kernel_rfl) (by simp) ?_
       refine AllReadyH.cons rfl (fun K hK=>?_) AllReadyH.nil
       clear hHeld
       go_simp
       refine hK.out _ _ ?_ (fun hHeld=>?_)
       ·exact trivial
       clear hK K
       try simp only [List.getElem_toArray,List.getElem_cons_succ,List.getElem_cons_zero,Act.put,List.setIfInBounds_toArray,List.set_cons_zero,List.set_cons_succ]
       refine wpAnyH_done (by kernel_rfl) ?_ _
       try dsimp only [Exit.then]
       have hord:=HORD.out.ins k (by have:=HLN.out; omega) HHI.out HLO.out
       have hn3:0+k+1+(j - k)=j+1:=by omega
       have hl3:([]++ol.take k++[j])++ol.drop k=ol.take k++j::ol.drop k:=by simp
       rw [hn3,hl3] at ho3
       obtain ⟨g3,c3,rfl,-,hg3⟩:=ho3.form (by omega)
       have hj3:j+1≤c3:=own_cap ho3
       have HR3:=Lib.hid (Rd.of_own ho3)
       have HO3:=Lib.hid hord
       have HB3:=Lib.hid (HBX.out.trans (hB.mono HBX.out.size))
       clear ho3 hord hg3 hB
       go_wp2_with fail
       exact ⟨⟨j+1,g3,c3,_,rfl,by go_num,by omega,hj3,HO3,HR3,HB3⟩,by simp [intOf]; omega⟩
      ·clear hHeld
       go_simp
       have hv6:=heap_alloc_new Wa (.cells #[.int .i64 (j:Nat)] 3)
       have hl6:Wa.heap.size<(Wa.alloc (.cells #[.int .i64 (j:Nat)] 3)).heap.size:=by simp
       have hne6:(Value.slice (some ⟨base,0,none⟩) 0 0).ownBlock≠some Wa.heap.size:=fun e=>by have:=World.ownsRow.lt ho0 _ e; omega
       replace ho0:=own_next ho0 (below_alloc Wa (.cells #[.int .i64 (j:Nat)] 3))
       replace hb0:=Nat.le_trans hb0 (below_alloc Wa (.cells #[.int .i64 (j:Nat)] 3)).size
       replace hB:=hB.trans ((below_alloc Wa (.cells #[.int .i64 (j:Nat)] 3)).mono hB.size)
       generalize Wa.alloc (.cells #[.int .i64 (j:Nat)] 3)=Wb at hB hv6 hl6 ho0 hb0 ⊢
       refine hK.out _ _ ?_ (fun hHeld=>?_)
       ·exact trivial
       clear hK K
       try simp only [List.getElem_toArray,List.getElem_cons_succ,List.getElem_cons_zero,Act.put,List.setIfInBounds_toArray,List.set_cons_zero,List.set_cons_succ]
       refine wpAnyH_ready (rs:=[4]) (by kernel_rfl) (by simp) ?_
       refine AllReadyH.cons rfl (fun K hK=>?_) AllReadyH.nil
       clear hHeld
       obtain ⟨v1,W1,hrun,ho1,hb1,hk1⟩:=app_nat (c:=co) ho0 (rd_take (HRF.out _ hB) HLN.out hkj) hb0 (by have:=H12.out; omega) 36
       refine step_app rfl (.tmp 60) (.tmp 63) _ rfl rfl rfl hrun ?_
       replace hv6:=(hk1 _ hl6 hne6).trans hv6
       replace hl6:=Nat.lt_of_lt_of_le hl6 hb1.size
       clear hne6
       replace hB:=hB.trans (hb1.mono hlb)
       replace hb0:=Nat.le_trans hb0 hb1.size
       clear hrun hb1 hk1 ho0
       refine hK.out _ _ ?_ (fun hHeld=>?_)
       ·exact trivial
       clear hK K
       try simp only [List.getElem_toArray,List.getElem_cons_succ,List.getElem_cons_zero,Act.put,List.setIfInBounds_toArray,List.set_cons_zero,List.set_cons_succ]
       refine wpAnyH_ready (rs:=[7]) (by kernel_rfl) (by simp) ?_
       refine AllReadyH.cons rfl (fun K hK=>?_) AllReadyH.nil
       clear hHeld
       obtain ⟨v2,W2,hrun,ho2,hb2,hk2⟩:=app_nat (c:=1) ho1 (rd_one hv6) hb0 (by have:=H12.out; omega) 36
       refine step_app rfl (.tmp 64) (.tmp 66) _ rfl rfl rfl hrun ?_
       replace hB:=hB.trans (hb2.mono hlb)
       replace hb0:=Nat.le_trans hb0 hb2.size
       clear hrun hb2 hk2 ho1 hv6 hl6
       refine hK.out _ _ ?_ (fun hHeld=>?_)
       ·exact trivial
       clear hK K
       try simp only [List.getElem_toArray,List.getElem_cons_succ,List.getElem_cons_zero,Act.put,List.setIfInBounds_toArray,List.set_cons_zero,List.set_cons_succ]
       refine wpAnyH_ready (rs:=[11]) (by kernel_rfl) (by simp) ?_
       refine AllReadyH.cons rfl (fun K hK=>?_) AllReadyH.nil
       clear hHeld
       obtain ⟨v3,W3,hrun,ho3,hb3,hk3⟩:=app_nat (c:=co - k) ho2 (rd_drop (HRF.out _ hB) HLN.out hkj) hb0 (by have:=H12.out; omega) 36
       refine step_app rfl (.tmp 67) (.tmp 70) _ rfl rfl rfl hrun ?_
       replace hB:=hB.trans (hb3.mono hlb)
       clear hrun hb3 hk3 ho2 hlb hb0
       refine hK.out _ _ ?_ (fun hHeld=>?_)
       ·exact trivial
       clear hK K
       try simp only [List.getElem_toArray,List.getElem_cons_succ,List.getElem_cons_zero,Act.put,List.setIfInBounds_toArray,List.set_cons_zero,List.set_cons_succ]
       refine wpAnyH_ready (rs:=[12]) (by kernel_rfl) (by simp) ?_
       refine AllReadyH.cons rfl (fun K hK=>?_) AllReadyH.nil
       clear hHeld
       go_simp
       refine hK.out _ _ ?_ (fun hHeld=>?_)
       ·exact trivial
       clear hK K
       try simp only [List.getElem_toArray,List.getElem_cons_succ,List.getElem_cons_zero,Act.put,List.setIfInBounds_toArray,List.set_cons_zero,List.set_cons_succ]
       refine wpAnyH_done (by kernel_rfl) ?_ _
       try dsimp only [Exit.then]
       have hord:=HORD.out.ins k (by have:=HLN.out; omega) HHI.out HLO.out
       have hn3:0+k+1+(j - k)=j+1:=by omega
       have hl3:([]++ol.take k++[j])++ol.drop k=ol.take k++j::ol.drop k:=by simp
       rw [hn3,hl3] at ho3
       obtain ⟨g3,c3,rfl,-,hg3⟩:=ho3.form (by omega)
       have hj3:j+1≤c3:=own_cap ho3
       have HR3:=Lib.hid (Rd.of_own ho3)
       have HO3:=Lib.hid hord
       have HB3:=Lib.hid (HBX.out.trans (hB.mono HBX.out.size))
       clear ho3 hord hg3 hB
       go_wp2_with fail
       exact ⟨⟨j+1,g3,c3,_,rfl,by go_num,by omega,hj3,HO3,HR3,HB3⟩,by simp [intOf]; omega⟩
     ·clear hHeld
      go_simp
      have hv6:=heap_alloc_new w0 (.cells #[.int .i64 (j:Nat)] 3)
      have hl6:w0.heap.size<(w0.alloc (.cells #[.int .i64 (j:Nat)] 3)).heap.size:=by simp
      replace hB:=hB.trans ((below_alloc w0 (.cells #[.int .i64 (j:Nat)] 3)).mono hB.size)
      generalize w0.alloc (.cells #[.int .i64 (j:Nat)] 3)=Wb at hB hv6 hl6 ⊢
      refine hK.out _ _ ?_ (fun hHeld=>?_)
      ·exact trivial
      clear hK K
      try simp only [List.getElem_toArray,List.getElem_cons_succ,List.getElem_cons_zero,Act.put,List.setIfInBounds_toArray,List.set_cons_zero,List.set_cons_succ]
      refine wpAnyH_ready (rs:=[0]) (by kernel_rfl) (by simp) ?_
      refine AllReadyH.cons rfl (fun K hK=>?_) AllReadyH.nil
      clear hHeld
      go_simp
      have ho0:=own_new Wb
      have hlb:=hB.size
      have hb0:Wb.heap.size≤(Wb.alloc (.cells #[] 3)).heap.size:=by simp
      replace hv6:=((below_alloc Wb (.cells #[] 3)).block _ hl6).trans hv6
      have hne6:(Value.slice (some ⟨Wb.heap.size,0,none⟩) 0 0).ownBlock≠some w0.heap.size:=fun e=>by simp only [Value.ownBlock,Option.some.injEq] at e; omega
      replace hl6:=Nat.lt_of_lt_of_le hl6 hb0
      replace hB:=hB.trans ((below_alloc Wb (.cells #[] 3)).mono hB.size)
      obtain ⟨base,hbase⟩:∃ base,base=Wb.heap.size:=⟨_,rfl⟩
      generalize Wb.alloc (.cells #[] 3)=Wa at hB ho0 hb0 hv6 hl6 ⊢
      rw [← hbase] at ho0 hlb hb0 hne6 ⊢
      clear hbase
      refine hK.out _ _ ?_ (fun hHeld=>?_)
      ·exact trivial
      clear hK K
      try simp only [List.getElem_toArray,List.getElem_cons_succ,List.getElem_cons_zero,Act.put,List.setIfInBounds_toArray,List.set_cons_zero,List.set_cons_succ]
      refine wpAnyH_ready (rs:=[4]) (by kernel_rfl) (by simp) ?_
      refine AllReadyH.cons rfl (fun K hK=>?_) AllReadyH.nil
      clear hHeld
      obtain ⟨v1,W1,hrun,ho1,hb1,hk1⟩:=app_nat (c:=co) ho0 (rd_take (HRF.out _ hB) HLN.out hkj) hb0 (by have:=H12.out; omega) 36
      refine step_app rfl (.tmp 60) (.tmp 63) _ rfl rfl rfl hrun ?_
      replace hv6:=(hk1 _ hl6 hne6).trans hv6
      replace hl6:=Nat.lt_of_lt_of_le hl6 hb1.size
      clear hne6
      replace hB:=hB.trans (hb1.mono hlb)
      replace hb0:=Nat.le_trans hb0 hb1.size
      clear hrun hb1 hk1 ho0
      refine hK.out _ _ ?_ (fun hHeld=>?_)
      ·exact trivial
      clear hK K
      try simp only [List.getElem_toArray,List.getElem_cons_succ,List.getElem_cons_zero,Act.put,List.setIfInBounds_toArray,List.set_cons_zero,List.set_cons_succ]
      refine wpAnyH_ready (rs:=[7]) (by kernel_rfl) (by simp) ?_
      refine AllReadyH.cons rfl (fun K hK=>?_) AllReadyH.nil
      clear hHeld
      obtain ⟨v2,W2,hrun,ho2,hb2,hk2⟩:=app_nat (c:=1) ho1 (rd_one hv6) hb0 (by have:=H12.out; omega) 36
      refine step_app rfl (.tmp 64) (.tmp 66) _ rfl rfl rfl hrun ?_
      replace hB:=hB.trans (hb2.mono hlb)
      replace hb0:=Nat.le_trans hb0 hb2.size
      clear hrun hb2 hk2 ho1 hv6 hl6
      refine hK.out _ _ ?_ (fun hHeld=>?_)
      ·exact trivial
      clear hK K
      try simp only [List.getElem_toArray,List.getElem_cons_succ,List.getElem_cons_zero,Act.put,List.setIfInBounds_toArray,List.set_cons_zero,List.set_cons_succ]
      refine wpAnyH_ready (rs:=[11]) (by kernel_rfl) (by simp) ?_
      refine AllReadyH.cons rfl (fun K hK=>?_) AllReadyH.nil
      clear hHeld
      obtain ⟨v3,W3,hrun,ho3,hb3,hk3⟩:=app_nat (c:=co - k) ho2 (rd_drop (HRF.out _ hB) HLN.out hkj) hb0 (by have:=H12.out; omega) 36
      refine step_app rfl (.tmp 67) (.tmp 70) _ rfl rfl rfl hrun ?_
      replace hB:=hB.trans (hb3.mono hlb)
      clear hrun hb3 hk3 ho2 hlb hb0
      refine hK.out _ _ ?_ (fun hHeld=>?_)
      ·exact trivial
      clear hK K
      try simp only [List.getElem_toArray,List.getElem_cons_succ,List.getElem_cons_zero,Act.put,List.setIfInBounds_toArray,List.set_cons_zero,List.set_cons_succ]
      refine wpAnyH_ready (rs:=[12]) (by kernel_rfl) (by simp) ?_
      refine AllReadyH.cons rfl (fun K hK=>?_) AllReadyH.nil
      clear hHeld
      go_simp
      refine hK.out _ _ ?_ (fun hHeld=>?_)
      ·exact trivial
      clear hK K
      try simp only [List.getElem_toArray,List.getElem_cons_succ,List.getElem_cons_zero,Act.put,List.setIfInBounds_toArray,List.set_cons_zero,List.set_cons_succ]
      refine wpAnyH_done (by kernel_rfl) ?_ _
      try dsimp only [Exit.then]
      have hord:=HORD.out.ins k (by have:=HLN.out; omega) HHI.out HLO.out
      have hn3:0+k+1+(j - k)=j+1:=by omega
      have hl3:([]++ol.take k++[j])++ol.drop k=ol.take k++j::ol.drop k:=by simp
      rw [hn3,hl3] at ho3
      obtain ⟨g3,c3,rfl,-,hg3⟩:=ho3.form (by omega)
      have hj3:j+1≤c3:=own_cap ho3
      have HR3:=Lib.hid (Rd.of_own ho3)
      have HO3:=Lib.hid hord
      have HB3:=Lib.hid (HBX.out.trans (hB.mono HBX.out.size))
      clear ho3 hord hg3 hB
      go_wp2_with fail
      exact ⟨⟨j+1,g3,c3,_,rfl,by go_num,by omega,hj3,HO3,HR3,HB3⟩,by simp [intOf]; omega⟩
  ·have hd1:decide ((j:Int)<(ls.length:Int))=false:=decide_eq_false (by omega)
   have hd2:decide (j<ls.length)=false:=decide_eq_false hlt
   have hje:j=ls.length:=by omega
   have HJE:=Lib.hid hje
   clear hje
   go_wp2_with fail
   go_ret
   refine ⟨HBW.out,go,co,ol,by rw [HJE.out]; rfl,by rw [← HJE.out]; exact HORD.out,by rw [← HJE.out]; exact HRD.out⟩
end Go.Proofs.YtedpopbaipnamaaGreatDoor
