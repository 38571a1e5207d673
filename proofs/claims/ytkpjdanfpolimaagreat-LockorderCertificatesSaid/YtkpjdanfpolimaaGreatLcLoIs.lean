/- lockorder's instruction, walked. Conditions: the analysis lies in memory, the program is valid. -/
import Derived.Test.YtkpjdanfpolimaaGreatLcOpen
import Derived.Test.YtkpjdanfpolimaaGreatLcAsc
set_option maxRecDepth 100000
set_option maxHeartbeats 6400000
namespace Go.Proofs.YtkpjdanfpolimaaGreat
open Go.RowKit Go.Shelf
def S.first (p:Prg) (s:S) (f k:Nat):S:=
 if (p.ins f k).op=34 then s.enter p (p.ins f k).b.toNat 0 else if (p.ins f k).op=15 then s.enter p (p.ins f k).b.toNat (s.get (.at_ f k)).2 else if (p.ins f k).op=17 then s.enter p (p.ins f k).b.toNat (allM p) else if (p.ins f k).op=35 then s.open_ p f k else s
def S.goOn (p:Prg) (s:S) (f k:Nat):S:=if (s.behind p f k).2 then (nextM p f k).foldl (fun z j=>z.grow (.at_ f j) (s.behind p f k).1) s else s
theorem S.instruction_eq (p:Prg) (s:S) (f k:Nat):s.instruction p f k=(s.first p f k).goOn p f k:=rfl
theorem nextM_lt {p:Prg} {f k x:Nat} (h:x∈nextM p f k):x<p.len f:=by
 have hm:x∈(nextRaw (p.ins f k) k).filter (fun n=>decide (n<p.len f)):=by
  unfold nextM asc2 at h;split at h
  ·rename_i y z e
   rw [e];split at h
   ·rename_i e2; subst e2; simp at h ⊢; exact h
   ·split at h
    ·exact h
    ·simp at h ⊢; exact h.symm
  ·exact h
 simpa using (List.mem_filter.1 hm).2
theorem lois_any (p:Prg) (hfit:Fits p) (hv:prgOk p) (L:Lay) (s:S) (f k:Nat) (hf:f<p.funs.length) (hk:k<p.len f) (w:World) (h:Mem p L w s) :
  Calls Tryz.prog 68 #[.pointer (some ⟨L.A,0,none⟩),.int .i64 f,.int .i64 k] w (Left p L w (s.instruction p f k) (.tuple #[])):=by
 have hW:=wf_of hv;have hl:=hW.len f hf;obtain ⟨b,off,b2,off2,hA,hb,hb2,-,d5,q0,q1,q2,q3,q4⟩:=h.prog.at_ hf hk;have c0:=h.c0;rw [hA] at c0;have f0:=zi f;have f1:(f:Int)<(p.funs.length:Int):=by omega
 have k0:=zi k;have k1:(k:Int)<(p.len f:Int):=by omega
 have HEN:=hid (fun (W:World) (s:S) (hm:Mem p L W s) (g:Nat) (hg:g<p.funs.length) (l:BS)=>enter_any p L W s hm g hg l);have HEN0:Hid (∀ (W:World) (s:S) (_:Mem p L W s) (g:Nat) (_:g<p.funs.length),Calls Tryz.prog 67 #[.pointer (some ⟨L.A,0,none⟩),.int .i64 g,.int .u32 0] W (Left p L W (s.enter p g 0) (.tuple #[]))):=hid (fun W s hm g hg=>enter_any p L W s hm g hg 0);have HOP:=hid (fun (ho:(p.ins f k).op=35) (W:World) (hm:Mem p L W s)=>open_any p hfit hv L s f k hf hk ho W hm);have HBH:=hid (fun (W:World) (s:S) (hm:Mem p L W s)=>behind_any p hW L W s hm f k hf hk);have HNX:=hid (fun (W:World) (hm:Lies W W.heap.size p)=>next_ok p hfit hv W hm f k hf hk);have HRE:=hid (fun (W:World) (s:S) (hm:Mem p L W s) (x:Nat) (hx:x<p.len f) (l:BS)=>reach_any p L W s hm f x ⟨hf,hx⟩ l);unfold Prg.val at HNX
 unfold sv at HEN HBH HRE;have HIQ:=hid (S.instruction_eq p s f k);have HMM:=hid h;have hcall:=(hW.ins f k hf hk).call;have HFS:Hid (s.first p f k=if (p.ins f k).op=34 then s.enter p (p.ins f k).b.toNat 0 else if (p.ins f k).op=15 then s.enter p (p.ins f k).b.toNat (s.get (.at_ f k)).2 else if (p.ins f k).op=17 then s.enter p (p.ins f k).b.toNat (allM p) else if (p.ins f k).op=35 then s.open_ p f k else s):=hid rfl;generalize p.ins f k=i at q0 q1 q2 q3 q4 hcall HFS HOP;obtain ⟨op,a,bb,c,args,argA,argC⟩:=i;dsimp only at q0 q1 q2 q3 q4 hcall HFS HOP;clear hA h;go_enter Tryz.func68,Tryz.ntmps68;go_upto_region 1 with fail;have hb5:=below_alloc w (.cells #[.int .i64 op,.int .i64 a,.int .i64 bb,.int .i64 c,.slice argA args.length argC] 63);have hx:=bx_new w #[.int .i64 op,.int .i64 a,.int .i64 bb,.int .i64 c,.slice argA args.length argC] 63
 have hz:w.heap.size<(w.alloc (.cells #[.int .i64 op,.int .i64 a,.int .i64 bb,.int .i64 c,.slice argA args.length argC] 63)).heap.size:=by simp
 have hm1:=HMM.out.below hb5;have ht1:Turn L.lo L.hi w (w.alloc (.cells #[.int .i64 op,.int .i64 a,.int .i64 bb,.int .i64 c,.slice argA args.length argC] 63)):=Turn.of_below hb5;clear c0 d5 q0 q1 q2 q3 q4 hb5;generalize w.alloc _=W1 at hx hz hm1 ht1 ⊢;obtain ⟨z0,-,z2,-,-⟩:=bx5 hx;have hG:=HMM.out.hi.2;by_cases h34:op=34
 ·subst h34
  obtain ⟨hb0,hb1⟩:=hcall (.inr (.inl rfl));obtain ⟨g,rfl⟩:∃ g:Nat,bb=g:=⟨bb.toNat,by omega⟩
  have hgn:g<p.funs.length:=by omega
  have HFI:=hid (show s.first p f k=s.enter p g 0 from by rw [HFS.out,if_pos rfl]; rfl);go_wp2_with fail;refine (HEN0.out _ _ hm1 g hgn).mono ?_;rintro e W3 ⟨rfl,hm3,ht3⟩;have ht4:=ht1.trans ht3;clear z0 z2;have HT:=hid (show s.instruction p f k=S.goOn p (s.enter p g 0) f k from by rw [HIQ.out,HFI.out]);clear HFI HIQ HFS;generalize hs1:s.enter p g 0=s1 at hm3 HT;clear hs1;go_wp2_with fail;refine (HBH.out _ _ hm3).mono ?_
  cases hfo:(s1.behind p f k).2 with
  | false=>
   rintro e W8 ⟨rfl,hb8⟩;have HV:=hid (show s.instruction p f k=s1 from by rw [HT.out]; unfold S.goOn; rw [hfo]; rfl);have hm8:=hm3.below hb8;have ht8:=ht4.trans (Turn.of_below hb8);clear hfo;go_wp2_with fail;refine bodyPost_ret (results_none rfl _ _ _) rfl ?_;exact ⟨rfl,by rw [HV.out]; exact hm8,ht8⟩
  | true=>
   rintro e W8 ⟨rfl,hb8⟩;have HV:=hid (show s.instruction p f k=(nextM p f k).foldl (fun z j=>z.grow (.at_ f j) (s1.behind p f k).1) s1 from by rw [HT.out]; unfold S.goOn; rw [hfo]; rfl);have hm8:=hm3.below hb8;have ht8:=ht4.trans (Turn.of_below hb8);have c0:=hm8.c0;have c1:=hm8.c1;have c2:=hm8.c2;have hhi:=hm8.hi;clear hfo HT;generalize (s1.behind p f k).1=l at HV ⊢;go_wp2_with fail;refine (HNX.out W8 (hm8.prog.more (by omega))).mono ?_;rintro e W9 ⟨A,cc,rfl,hrd,hfr,hb9⟩;have hm9:=hm8.below hb9;have ht9:=ht8.trans (Turn.of_below hb9);have hnn:(nats (nextM p f k)).length=(nextM p f k).length:=by simp [nats]
   rw [hnn] at hrd ⊢;have hmem:∀ x∈nextM p f k,x<p.len f:=fun x hx=>nextM_lt hx
   have hn2:=next_le p f k;generalize nextM p f k=nx at hrd hmem HV hn2 ⊢;clear c0 c1 c2 hnn hm8 ht8;by_cases hn0:nx=[]
   ·subst hn0
    go_wp2_with fail;go_loopw [80] (fun i wr=>i=.int .i64 0∧Mem p L wr s1∧Turn L.lo L.hi w wr) (fun i _=>0)
    case atStart=>exact ⟨rfl,hm9,ht9⟩
    case round=>
     obtain ⟨rfl,hm,ht⟩:=hrel;go_wp2_with fail;go_end0;exact ⟨rfl,by rw [HV.out]; exact hm,ht⟩
   ·obtain ⟨b9,o9,rfl,hb9',hc9⟩:=hrd.addr (List.length_pos_iff.2 hn0)
    have hge:L.hi≤b9:=Nat.le_trans hhi.2 (hfr b9 o9 rfl);clear hn0 hfr hrd;go_wp2_with fail;go_loopw [80] (fun i wr=>∃ j:Nat,i=.int .i64 j∧j≤nx.length∧Mem p L wr ((nx.take j).foldl (fun z j=>z.grow (.at_ f j) l) s1)∧Turn L.lo L.hi W9 wr) (fun i _=>nx.length - (intOf i).toNat)
    case atStart=>exact ⟨0,rfl,by omega,hm9,Turn.refl _ _ _⟩
    case round=>
     obtain ⟨j,rfl,hj,hm,ht⟩:=hrel;have hj0:=zi j;have hwr1:=Wi j (by omega);by_cases hlt:j<nx.length
     ·have hd1:=Dt (show (j:Int)<nx.length by omega)
      have hd2:=Dt hlt;have hjl:(j:Int)<(nx.length:Int):=by omega
      have hcj:=ht.cell (hc9 j (.int .i64 (nx[j]:Nat)) (by simp [i64s,nats,hlt])) (.inr hge);have HFO:=hid (show (nx.take (j+1)).foldl (fun z j=>z.grow (.at_ f j) l) s1=((nx.take j).foldl (fun z j=>z.grow (.at_ f j) l) s1).grow (.at_ f nx[j]) l from by rw [List.take_succ_eq_append_getElem hlt,List.foldl_append]; rfl);have hxl:=hmem nx[j] (List.getElem_mem _);generalize nx[j]=x at hcj HFO hxl;generalize (nx.take j).foldl (fun z j=>z.grow (.at_ f j) l) s1=sj at hm HFO;go_wp2_with fail;refine (HRE.out _ _ hm x hxl l).mono ?_;rintro e Wa ⟨rfl,hma,hta⟩;have htb:=ht.trans hta;clear hcj;go_wp2_with fail;exact ⟨⟨j+1,by go_num,by omega,by rw [HFO.out]; exact hma,htb⟩,by simp [intOf]; omega⟩
     ·have hd1:=Df (show ¬ (j:Int)<nx.length by omega)
      have hd2:=Df hlt;obtain rfl:j=nx.length:=by omega
      rw [List.take_length] at hm;clear hlt hj;go_wp2_with fail;go_end0;exact ⟨rfl,by rw [HV.out]; exact hm,ht9.trans ht⟩
 ·by_cases h15:op=15
  ·subst h15
   obtain ⟨hb0,hb1⟩:=hcall (.inl rfl);obtain ⟨g,rfl⟩:∃ g:Nat,bb=g:=⟨bb.toNat,by omega⟩
   have hgn:g<p.funs.length:=by omega
   have HFI:=hid (show s.first p f k=s.enter p g (s.get (.at_ f k)).2 from by rw [HFS.out,if_neg (by decide),if_pos rfl]; rfl);have c10:=hm1.c10;have cB:=hm1.outB f hf;have cs:=(hm1.slot (.at_ f k) ⟨hf,hk⟩).2.1;unfold Lay.tA sv at cs;dsimp only at cs;go_upto_region 5 with fail;go_still_tail 13,(by kernel_rfl)
   change wpList _ _ _ _ _ W1.drew;have hm2:=hm1.drewN 1;have ht2:=ht1.drewN 1;change Mem p L W1.drew s at hm2;change Turn _ _ _ W1.drew at ht2;clear hm1 ht1 hx hz z0 z2 c10 cB cs;generalize W1.drew=W2 at hm2 ht2 ⊢;go_wp2_with fail;refine (HEN.out _ _ hm2 g hgn _).mono ?_;rintro e W3 ⟨rfl,hm3,ht3⟩;have ht4:=ht2.trans ht3;have HT:=hid (show s.instruction p f k=S.goOn p (s.enter p g (s.get (.at_ f k)).2) f k from by rw [HIQ.out,HFI.out]);clear HFI HIQ HFS;generalize hs1:s.enter p g (s.get (.at_ f k)).2=s1 at hm3 HT;clear hs1;go_wp2_with fail;refine (HBH.out _ _ hm3).mono ?_
   cases hfo:(s1.behind p f k).2 with
   | false=>
    rintro e W8 ⟨rfl,hb8⟩;have HV:=hid (show s.instruction p f k=s1 from by rw [HT.out]; unfold S.goOn; rw [hfo]; rfl);have hm8:=hm3.below hb8;have ht8:=ht4.trans (Turn.of_below hb8);clear hfo;go_wp2_with fail;refine bodyPost_ret (results_none rfl _ _ _) rfl ?_;exact ⟨rfl,by rw [HV.out]; exact hm8,ht8⟩
   | true=>
    rintro e W8 ⟨rfl,hb8⟩;have HV:=hid (show s.instruction p f k=(nextM p f k).foldl (fun z j=>z.grow (.at_ f j) (s1.behind p f k).1) s1 from by rw [HT.out]; unfold S.goOn; rw [hfo]; rfl);have hm8:=hm3.below hb8;have ht8:=ht4.trans (Turn.of_below hb8);have c0:=hm8.c0;have c1:=hm8.c1;have c2:=hm8.c2;have hhi:=hm8.hi;clear hfo HT;generalize (s1.behind p f k).1=l at HV ⊢;go_wp2_with fail;refine (HNX.out W8 (hm8.prog.more (by omega))).mono ?_;rintro e W9 ⟨A,cc,rfl,hrd,hfr,hb9⟩;have hm9:=hm8.below hb9;have ht9:=ht8.trans (Turn.of_below hb9);have hnn:(nats (nextM p f k)).length=(nextM p f k).length:=by simp [nats]
    rw [hnn] at hrd ⊢;have hmem:∀ x∈nextM p f k,x<p.len f:=fun x hx=>nextM_lt hx
    have hn2:=next_le p f k;generalize nextM p f k=nx at hrd hmem HV hn2 ⊢;clear c0 c1 c2 hnn hm8 ht8;by_cases hn0:nx=[]
    ·subst hn0
     go_wp2_with fail;go_loopw [80] (fun i wr=>i=.int .i64 0∧Mem p L wr s1∧Turn L.lo L.hi w wr) (fun i _=>0)
     case atStart=>exact ⟨rfl,hm9,ht9⟩
     case round=>
      obtain ⟨rfl,hm,ht⟩:=hrel;go_wp2_with fail;go_end0;exact ⟨rfl,by rw [HV.out]; exact hm,ht⟩
    ·obtain ⟨b9,o9,rfl,hb9',hc9⟩:=hrd.addr (List.length_pos_iff.2 hn0)
     have hge:L.hi≤b9:=Nat.le_trans hhi.2 (hfr b9 o9 rfl);clear hn0 hfr hrd;go_wp2_with fail;go_loopw [80] (fun i wr=>∃ j:Nat,i=.int .i64 j∧j≤nx.length∧Mem p L wr ((nx.take j).foldl (fun z j=>z.grow (.at_ f j) l) s1)∧Turn L.lo L.hi W9 wr) (fun i _=>nx.length - (intOf i).toNat)
     case atStart=>exact ⟨0,rfl,by omega,hm9,Turn.refl _ _ _⟩
     case round=>
      obtain ⟨j,rfl,hj,hm,ht⟩:=hrel;have hj0:=zi j;have hwr1:=Wi j (by omega);by_cases hlt:j<nx.length
      ·have hd1:=Dt (show (j:Int)<nx.length by omega)
       have hd2:=Dt hlt;have hjl:(j:Int)<(nx.length:Int):=by omega
       have hcj:=ht.cell (hc9 j (.int .i64 (nx[j]:Nat)) (by simp [i64s,nats,hlt])) (.inr hge);have HFO:=hid (show (nx.take (j+1)).foldl (fun z j=>z.grow (.at_ f j) l) s1=((nx.take j).foldl (fun z j=>z.grow (.at_ f j) l) s1).grow (.at_ f nx[j]) l from by rw [List.take_succ_eq_append_getElem hlt,List.foldl_append]; rfl);have hxl:=hmem nx[j] (List.getElem_mem _);generalize nx[j]=x at hcj HFO hxl;generalize (nx.take j).foldl (fun z j=>z.grow (.at_ f j) l) s1=sj at hm HFO;go_wp2_with fail;refine (HRE.out _ _ hm x hxl l).mono ?_;rintro e Wa ⟨rfl,hma,hta⟩;have htb:=ht.trans hta;clear hcj;go_wp2_with fail;exact ⟨⟨j+1,by go_num,by omega,by rw [HFO.out]; exact hma,htb⟩,by simp [intOf]; omega⟩
      ·have hd1:=Df (show ¬ (j:Int)<nx.length by omega)
       have hd2:=Df hlt;obtain rfl:j=nx.length:=by omega
       rw [List.take_length] at hm;clear hlt hj;go_wp2_with fail;go_end0;exact ⟨rfl,by rw [HV.out]; exact hm,ht9.trans ht⟩
  ·by_cases h17:op=17
   ·subst h17
    obtain ⟨hb0,hb1⟩:=hcall (.inr (.inr rfl));obtain ⟨g,rfl⟩:∃ g:Nat,bb=g:=⟨bb.toNat,by omega⟩
    have hgn:g<p.funs.length:=by omega
    have HFI:=hid (show s.first p f k=s.enter p g (allM p) from by rw [HFS.out,if_neg (by decide),if_neg (by decide),if_pos rfl]; rfl);have c3:=hm1.c3;unfold sv at c3;go_upto_region 7 with fail;go_still_tail 7,(by kernel_rfl)
    change wpList _ _ _ _ _ W1.drew;have hm2:=hm1.drewN 1;have ht2:=ht1.drewN 1;change Mem p L W1.drew s at hm2;change Turn _ _ _ W1.drew at ht2;clear hm1 ht1 hx hz z0 z2 c3;generalize W1.drew=W2 at hm2 ht2 ⊢;go_wp2_with fail;refine (HEN.out _ _ hm2 g hgn _).mono ?_;rintro e W3 ⟨rfl,hm3,ht3⟩;have ht4:=ht2.trans ht3;have HT:=hid (show s.instruction p f k=S.goOn p (s.enter p g (allM p)) f k from by rw [HIQ.out,HFI.out]);clear HFI HIQ HFS;generalize hs1:s.enter p g (allM p)=s1 at hm3 HT;clear hs1;go_wp2_with fail;refine (HBH.out _ _ hm3).mono ?_
    cases hfo:(s1.behind p f k).2 with
    | false=>
     rintro e W8 ⟨rfl,hb8⟩;have HV:=hid (show s.instruction p f k=s1 from by rw [HT.out]; unfold S.goOn; rw [hfo]; rfl);have hm8:=hm3.below hb8;have ht8:=ht4.trans (Turn.of_below hb8);clear hfo;go_wp2_with fail;refine bodyPost_ret (results_none rfl _ _ _) rfl ?_;exact ⟨rfl,by rw [HV.out]; exact hm8,ht8⟩
    | true=>
     rintro e W8 ⟨rfl,hb8⟩;have HV:=hid (show s.instruction p f k=(nextM p f k).foldl (fun z j=>z.grow (.at_ f j) (s1.behind p f k).1) s1 from by rw [HT.out]; unfold S.goOn; rw [hfo]; rfl);have hm8:=hm3.below hb8;have ht8:=ht4.trans (Turn.of_below hb8);have c0:=hm8.c0;have c1:=hm8.c1;have c2:=hm8.c2;have hhi:=hm8.hi;clear hfo HT;generalize (s1.behind p f k).1=l at HV ⊢;go_wp2_with fail;refine (HNX.out W8 (hm8.prog.more (by omega))).mono ?_;rintro e W9 ⟨A,cc,rfl,hrd,hfr,hb9⟩;have hm9:=hm8.below hb9;have ht9:=ht8.trans (Turn.of_below hb9);have hnn:(nats (nextM p f k)).length=(nextM p f k).length:=by simp [nats]
     rw [hnn] at hrd ⊢;have hmem:∀ x∈nextM p f k,x<p.len f:=fun x hx=>nextM_lt hx
     have hn2:=next_le p f k;generalize nextM p f k=nx at hrd hmem HV hn2 ⊢;clear c0 c1 c2 hnn hm8 ht8;by_cases hn0:nx=[]
     ·subst hn0
      go_wp2_with fail;go_loopw [80] (fun i wr=>i=.int .i64 0∧Mem p L wr s1∧Turn L.lo L.hi w wr) (fun i _=>0)
      case atStart=>exact ⟨rfl,hm9,ht9⟩
      case round=>
       obtain ⟨rfl,hm,ht⟩:=hrel;go_wp2_with fail;go_end0;exact ⟨rfl,by rw [HV.out]; exact hm,ht⟩
     ·obtain ⟨b9,o9,rfl,hb9',hc9⟩:=hrd.addr (List.length_pos_iff.2 hn0)
      have hge:L.hi≤b9:=Nat.le_trans hhi.2 (hfr b9 o9 rfl);clear hn0 hfr hrd;go_wp2_with fail;go_loopw [80] (fun i wr=>∃ j:Nat,i=.int .i64 j∧j≤nx.length∧Mem p L wr ((nx.take j).foldl (fun z j=>z.grow (.at_ f j) l) s1)∧Turn L.lo L.hi W9 wr) (fun i _=>nx.length - (intOf i).toNat)
      case atStart=>exact ⟨0,rfl,by omega,hm9,Turn.refl _ _ _⟩
      case round=>
       obtain ⟨j,rfl,hj,hm,ht⟩:=hrel;have hj0:=zi j;have hwr1:=Wi j (by omega);by_cases hlt:j<nx.length
       ·have hd1:=Dt (show (j:Int)<nx.length by omega)
        have hd2:=Dt hlt;have hjl:(j:Int)<(nx.length:Int):=by omega
        have hcj:=ht.cell (hc9 j (.int .i64 (nx[j]:Nat)) (by simp [i64s,nats,hlt])) (.inr hge);have HFO:=hid (show (nx.take (j+1)).foldl (fun z j=>z.grow (.at_ f j) l) s1=((nx.take j).foldl (fun z j=>z.grow (.at_ f j) l) s1).grow (.at_ f nx[j]) l from by rw [List.take_succ_eq_append_getElem hlt,List.foldl_append]; rfl);have hxl:=hmem nx[j] (List.getElem_mem _);generalize nx[j]=x at hcj HFO hxl;generalize (nx.take j).foldl (fun z j=>z.grow (.at_ f j) l) s1=sj at hm HFO;go_wp2_with fail;refine (HRE.out _ _ hm x hxl l).mono ?_;rintro e Wa ⟨rfl,hma,hta⟩;have htb:=ht.trans hta;clear hcj;go_wp2_with fail;exact ⟨⟨j+1,by go_num,by omega,by rw [HFO.out]; exact hma,htb⟩,by simp [intOf]; omega⟩
       ·have hd1:=Df (show ¬ (j:Int)<nx.length by omega)
        have hd2:=Df hlt;obtain rfl:j=nx.length:=by omega
        rw [List.take_length] at hm;clear hlt hj;go_wp2_with fail;go_end0;exact ⟨rfl,by rw [HV.out]; exact hm,ht9.trans ht⟩
   ·by_cases h35:op=35
    ·subst h35
     have HFI:=hid (show s.first p f k=s.open_ p f k from by rw [HFS.out,if_neg (by decide),if_neg (by decide),if_neg (by decide),if_pos rfl]);go_wp2_with fail;refine (HOP.out (by first | exact trivial | rfl) _ hm1).mono ?_;rintro e W3 ⟨rfl,hm3,ht3⟩;have ht4:=ht1.trans ht3;clear z0 z2;have HT:=hid (show s.instruction p f k=S.goOn p (s.open_ p f k) f k from by rw [HIQ.out,HFI.out]);clear HFI HIQ HFS;generalize hs1:s.open_ p f k=s1 at hm3 HT;clear hs1;go_wp2_with fail;refine (HBH.out _ _ hm3).mono ?_
     cases hfo:(s1.behind p f k).2 with
     | false=>
      rintro e W8 ⟨rfl,hb8⟩;have HV:=hid (show s.instruction p f k=s1 from by rw [HT.out]; unfold S.goOn; rw [hfo]; rfl);have hm8:=hm3.below hb8;have ht8:=ht4.trans (Turn.of_below hb8);clear hfo;go_wp2_with fail;refine bodyPost_ret (results_none rfl _ _ _) rfl ?_;exact ⟨rfl,by rw [HV.out]; exact hm8,ht8⟩
     | true=>
      rintro e W8 ⟨rfl,hb8⟩;have HV:=hid (show s.instruction p f k=(nextM p f k).foldl (fun z j=>z.grow (.at_ f j) (s1.behind p f k).1) s1 from by rw [HT.out]; unfold S.goOn; rw [hfo]; rfl);have hm8:=hm3.below hb8;have ht8:=ht4.trans (Turn.of_below hb8);have c0:=hm8.c0;have c1:=hm8.c1;have c2:=hm8.c2;have hhi:=hm8.hi;clear hfo HT;generalize (s1.behind p f k).1=l at HV ⊢;go_wp2_with fail;refine (HNX.out W8 (hm8.prog.more (by omega))).mono ?_;rintro e W9 ⟨A,cc,rfl,hrd,hfr,hb9⟩;have hm9:=hm8.below hb9;have ht9:=ht8.trans (Turn.of_below hb9);have hnn:(nats (nextM p f k)).length=(nextM p f k).length:=by simp [nats]
      rw [hnn] at hrd ⊢;have hmem:∀ x∈nextM p f k,x<p.len f:=fun x hx=>nextM_lt hx
      have hn2:=next_le p f k;generalize nextM p f k=nx at hrd hmem HV hn2 ⊢;clear c0 c1 c2 hnn hm8 ht8;by_cases hn0:nx=[]
      ·subst hn0
       go_wp2_with fail;go_loopw [80] (fun i wr=>i=.int .i64 0∧Mem p L wr s1∧Turn L.lo L.hi w wr) (fun i _=>0)
       case atStart=>exact ⟨rfl,hm9,ht9⟩
       case round=>
        obtain ⟨rfl,hm,ht⟩:=hrel;go_wp2_with fail;go_end0;exact ⟨rfl,by rw [HV.out]; exact hm,ht⟩
      ·obtain ⟨b9,o9,rfl,hb9',hc9⟩:=hrd.addr (List.length_pos_iff.2 hn0)
       have hge:L.hi≤b9:=Nat.le_trans hhi.2 (hfr b9 o9 rfl);clear hn0 hfr hrd;go_wp2_with fail;go_loopw [80] (fun i wr=>∃ j:Nat,i=.int .i64 j∧j≤nx.length∧Mem p L wr ((nx.take j).foldl (fun z j=>z.grow (.at_ f j) l) s1)∧Turn L.lo L.hi W9 wr) (fun i _=>nx.length - (intOf i).toNat)
       case atStart=>exact ⟨0,rfl,by omega,hm9,Turn.refl _ _ _⟩
       case round=>
        obtain ⟨j,rfl,hj,hm,ht⟩:=hrel;have hj0:=zi j;have hwr1:=Wi j (by omega);by_cases hlt:j<nx.length
        ·have hd1:=Dt (show (j:Int)<nx.length by omega)
         have hd2:=Dt hlt;have hjl:(j:Int)<(nx.length:Int):=by omega
         have hcj:=ht.cell (hc9 j (.int .i64 (nx[j]:Nat)) (by simp [i64s,nats,hlt])) (.inr hge);have HFO:=hid (show (nx.take (j+1)).foldl (fun z j=>z.grow (.at_ f j) l) s1=((nx.take j).foldl (fun z j=>z.grow (.at_ f j) l) s1).grow (.at_ f nx[j]) l from by rw [List.take_succ_eq_append_getElem hlt,List.foldl_append]; rfl);have hxl:=hmem nx[j] (List.getElem_mem _);generalize nx[j]=x at hcj HFO hxl;generalize (nx.take j).foldl (fun z j=>z.grow (.at_ f j) l) s1=sj at hm HFO;go_wp2_with fail;refine (HRE.out _ _ hm x hxl l).mono ?_;rintro e Wa ⟨rfl,hma,hta⟩;have htb:=ht.trans hta;clear hcj;go_wp2_with fail;exact ⟨⟨j+1,by go_num,by omega,by rw [HFO.out]; exact hma,htb⟩,by simp [intOf]; omega⟩
        ·have hd1:=Df (show ¬ (j:Int)<nx.length by omega)
         have hd2:=Df hlt;obtain rfl:j=nx.length:=by omega
         rw [List.take_length] at hm;clear hlt hj;go_wp2_with fail;go_end0;exact ⟨rfl,by rw [HV.out]; exact hm,ht9.trans ht⟩
    ·have HFI:=hid (show s.first p f k=s from by rw [HFS.out,if_neg h34,if_neg h15,if_neg h17,if_neg h35])
     have e1:(op == 34)=false:=by simpa using h34
     have e2:(op == 15)=false:=by simpa using h15
     have e3:(op == 17)=false:=by simpa using h17
     have e4:(op == 35)=false:=by simpa using h35
     clear h34 h15 h17 h35;have HT:=hid (show s.instruction p f k=S.goOn p (s) f k from by rw [HIQ.out,HFI.out]);clear HFI HIQ HFS;obtain ⟨s1,hs1⟩:∃ s1,s1=s:=⟨_,rfl⟩
     rw [← hs1] at hm1;have HT2:=hid (show s.instruction p f k=S.goOn p s1 f k from by rw [HT.out,hs1]);clear HT hs1;have HT:=HT2;clear HT2;go_wp2_with fail;refine (HBH.out _ _ hm1).mono ?_
     cases hfo:(s1.behind p f k).2 with
     | false=>
      rintro e W8 ⟨rfl,hb8⟩;have HV:=hid (show s.instruction p f k=s1 from by rw [HT.out]; unfold S.goOn; rw [hfo]; rfl);have hm8:=hm1.below hb8;have ht8:=ht1.trans (Turn.of_below hb8);clear hfo;go_wp2_with fail;refine bodyPost_ret (results_none rfl _ _ _) rfl ?_;exact ⟨rfl,by rw [HV.out]; exact hm8,ht8⟩
     | true=>
      rintro e W8 ⟨rfl,hb8⟩;have HV:=hid (show s.instruction p f k=(nextM p f k).foldl (fun z j=>z.grow (.at_ f j) (s1.behind p f k).1) s1 from by rw [HT.out]; unfold S.goOn; rw [hfo]; rfl);have hm8:=hm1.below hb8;have ht8:=ht1.trans (Turn.of_below hb8);have c0:=hm8.c0;have c1:=hm8.c1;have c2:=hm8.c2;have hhi:=hm8.hi;clear hfo HT;generalize (s1.behind p f k).1=l at HV ⊢;go_wp2_with fail;refine (HNX.out W8 (hm8.prog.more (by omega))).mono ?_;rintro e W9 ⟨A,cc,rfl,hrd,hfr,hb9⟩;have hm9:=hm8.below hb9;have ht9:=ht8.trans (Turn.of_below hb9);have hnn:(nats (nextM p f k)).length=(nextM p f k).length:=by simp [nats]
      rw [hnn] at hrd ⊢;have hmem:∀ x∈nextM p f k,x<p.len f:=fun x hx=>nextM_lt hx
      have hn2:=next_le p f k;generalize nextM p f k=nx at hrd hmem HV hn2 ⊢;clear c0 c1 c2 hnn hm8 ht8;by_cases hn0:nx=[]
      ·subst hn0
       go_wp2_with fail;go_loopw [80] (fun i wr=>i=.int .i64 0∧Mem p L wr s1∧Turn L.lo L.hi w wr) (fun i _=>0)
       case atStart=>exact ⟨rfl,hm9,ht9⟩
       case round=>
        obtain ⟨rfl,hm,ht⟩:=hrel;go_wp2_with fail;go_end0;exact ⟨rfl,by rw [HV.out]; exact hm,ht⟩
      ·obtain ⟨b9,o9,rfl,hb9',hc9⟩:=hrd.addr (List.length_pos_iff.2 hn0)
       have hge:L.hi≤b9:=Nat.le_trans hhi.2 (hfr b9 o9 rfl);clear hn0 hfr hrd;go_wp2_with fail;go_loopw [80] (fun i wr=>∃ j:Nat,i=.int .i64 j∧j≤nx.length∧Mem p L wr ((nx.take j).foldl (fun z j=>z.grow (.at_ f j) l) s1)∧Turn L.lo L.hi W9 wr) (fun i _=>nx.length - (intOf i).toNat)
       case atStart=>exact ⟨0,rfl,by omega,hm9,Turn.refl _ _ _⟩
       case round=>
        obtain ⟨j,rfl,hj,hm,ht⟩:=hrel;have hj0:=zi j;have hwr1:=Wi j (by omega);by_cases hlt:j<nx.length
        ·have hd1:=Dt (show (j:Int)<nx.length by omega)
         have hd2:=Dt hlt;have hjl:(j:Int)<(nx.length:Int):=by omega
         have hcj:=ht.cell (hc9 j (.int .i64 (nx[j]:Nat)) (by simp [i64s,nats,hlt])) (.inr hge);have HFO:=hid (show (nx.take (j+1)).foldl (fun z j=>z.grow (.at_ f j) l) s1=((nx.take j).foldl (fun z j=>z.grow (.at_ f j) l) s1).grow (.at_ f nx[j]) l from by rw [List.take_succ_eq_append_getElem hlt,List.foldl_append]; rfl);have hxl:=hmem nx[j] (List.getElem_mem _);generalize nx[j]=x at hcj HFO hxl;generalize (nx.take j).foldl (fun z j=>z.grow (.at_ f j) l) s1=sj at hm HFO;go_wp2_with fail;refine (HRE.out _ _ hm x hxl l).mono ?_;rintro e Wa ⟨rfl,hma,hta⟩;have htb:=ht.trans hta;clear hcj;go_wp2_with fail;exact ⟨⟨j+1,by go_num,by omega,by rw [HFO.out]; exact hma,htb⟩,by simp [intOf]; omega⟩
        ·have hd1:=Df (show ¬ (j:Int)<nx.length by omega)
         have hd2:=Df hlt;obtain rfl:j=nx.length:=by omega
         rw [List.take_length] at hm;clear hlt hj;go_wp2_with fail;go_end0;exact ⟨rfl,by rw [HV.out]; exact hm,ht9.trans ht⟩
end Go.Proofs.YtkpjdanfpolimaaGreat
