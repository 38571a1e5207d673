/- The reference's start, walked: the analysis in which only main is entered. Conditions: the program is valid and lies in memory. -/
import Derived.Test.YtkpjdanfpolimaaGreatLcRaA
set_option linter.unusedSimpArgs false
set_option maxRecDepth 100000
set_option maxHeartbeats 12800000
namespace Go.Proofs.YtkpjdanfpolimaaGreat
open Go.RowKit Go.Shelf
theorem frO:(∀ (l:List Oper) (i:Nat) (h:i<l.toArray.size),l.toArray[i]=l[i]'(by simpa using h))∧(∀ (a:Oper) (l:List Oper) (i:Nat) (h:i+1<(a::l).length),(a::l)[i+1]=l[i]'(Nat.lt_of_succ_lt_succ h))∧∀ (a:Oper) (l:List Oper),(a::l)[0]'(Nat.zero_lt_succ _)=a:=
  ⟨fun _ _ _=>List.getElem_toArray ..,fun _ _ _ _=>List.getElem_cons_succ ..,fun _ _=>rfl⟩
theorem start_any (p:Prg) (hv:prgOk p) (w:World) (h:Lies w w.heap.size p):Calls Tryz.prog 71 #[p.val] w (RBegun p w):=by
 have hW:=wf_of hv;have hfn:=hW.funs;have HWF:=hid hW;have HRA:Hid (∀ (L:RLay) (W:World) (s:S),RMem p L W s→Calls Tryz.prog 72 #[.pointer (some ⟨L.A,0,none⟩),.pointer (some ⟨L.E,0,none⟩),.int .i64 0] W (RLeft p L W (s.grow (.ent 0) 0) (.tuple #[]))):=hid (fun L W s hm=>radd_any p L W s hm (.ent 0) hW.funs.1 0);have HAC:=hid (fun (W:World) (hb:Below w.heap.size w W) (f k:Nat) (hf:f<p.funs.length) (hk:k<p.len f)=>racq_any p (p.ins f k) (fun e=>((hW.ins f k hf hk).wait e).1) W (h.next hb));have HCA:=hid (fun (W:World) (hb:Below w.heap.size w W) (f:Nat) (hf:f<p.funs.length)=>(h.next hb).codeAt hf);have HAT:=hid (fun (W:World) (hb:Below w.heap.size w W) (f k:Nat) (hf:f<p.funs.length) (hk:k<p.len f)=>(h.next hb).at_ hf hk);obtain ⟨b,off,hA,hb,-,-⟩:=h.codeAt hfn.1
 have hval:p.val=.agg #[.slice (some ⟨b,off,none⟩) p.funs.length p.funC,.slice p.obA p.obs.length p.obC,.slice p.vrA p.vrs.length p.vrC]:=by rw [Prg.val,hA]
 rw [hval] at HAC ⊢;obtain ⟨i0,hi,hz⟩:=Option.map_eq_some_iff.1 i64info;have hz0:i0.zero=some (.int .i64 0):=congrArg (fun t=>t.1) hz;have hz1:i0.size=1:=congrArg (fun t=>t.2.1) hz;have hz2:i0.bytes=8:=congrArg (fun t=>t.2.2) hz;obtain ⟨i1,hi',hz'⟩:=Option.map_eq_some_iff.1 intsInfo;have hz0':i1.zero=some (.slice none 0 0):=congrArg (fun t=>t.1) hz';have hz1':i1.size=1:=congrArg (fun t=>t.2.1) hz';have hz2':i1.bytes=24:=congrArg (fun t=>t.2.2) hz';clear hz hz';have HA:=hid hA;have HL:=hid h;clear h hval hA;go_enter Tryz.func71,Tryz.ntmps71;go_upto_region 2 with fail
 have hM0:StM p w (.slice none 0 0) (.slice none 0 0) (.slice none 0 0) (allTo p 0) (cleTo p 0) (stR p (fun _=>0) (fun _=>0) (.slice none 0 0) (.slice none 0 0) (.slice none 0 0) 0) ((w.alloc (.cells #[.slice (some ⟨b,off,none⟩) p.funs.length p.funC,.slice p.obA p.obs.length p.obC,.slice p.vrA p.vrs.length p.vrC] 26)).alloc (.cells #[.slice (some ⟨b,off,none⟩) p.funs.length p.funC,.slice p.obA p.obs.length p.obC,.slice p.vrA p.vrs.length p.vrC,.slice none 0 0,.slice none 0 0,.slice none 0 0,.int .i64 0,.int .i64 0,.bool false] 92)):=by
  have hT:=(one_new w #[.slice (some ⟨b,off,none⟩) p.funs.length p.funC,.slice p.obA p.obs.length p.obC,.slice p.vrA p.vrs.length p.vrC] 26).next (below_alloc _ (.cells #[.slice (some ⟨b,off,none⟩) p.funs.length p.funC,.slice p.obA p.obs.length p.obC,.slice p.vrA p.vrs.length p.vrC,.slice none 0 0,.slice none 0 0,.slice none 0 0,.int .i64 0,.int .i64 0,.bool false] 92))
  have hR:∀ t r,stR p (fun _=>0) (fun _=>0) (.slice none 0 0) (.slice none 0 0) (.slice none 0 0) 0 t=some r→r.1=.slice none 0 0∧r.2.2=[]:=fun t r e=>by
   match t,e with
   | 0,e=>injection e with e; subst e; exact ⟨rfl,rfl⟩
   | 1,e=>injection e with e; subst e; exact ⟨rfl,rfl⟩
   | 2,e=>injection e with e; subst e; exact ⟨rfl,rfl⟩
   | t+3,e=>
    simp [stR] at e
  refine ⟨by rw [HA.out]; exact hT.fst,?_,⟨fun t r e=>?_,fun t r t' r' e e' hne g hg=>?_,fun t r e=>?_⟩,hT.below,by simp⟩
  ·have e1:=heap_alloc_new (w.alloc (.cells #[.slice (some ⟨b,off,none⟩) p.funs.length p.funC,.slice p.obA p.obs.length p.obC,.slice p.vrA p.vrs.length p.vrC] 26)) (.cells #[.slice (some ⟨b,off,none⟩) p.funs.length p.funC,.slice p.obA p.obs.length p.obC,.slice p.vrA p.vrs.length p.vrC,.slice none 0 0,.slice none 0 0,.slice none 0 0,.int .i64 0,.int .i64 0,.bool false] 92)
   rw [World.size_alloc] at e1;unfold sCells;rw [HA.out];exact e1
  ·obtain ⟨h1,h2⟩:=hR t r e
   rw [h1,h2];exact World.ownsRow_nil _ _ _ _
  ·rw [(hR t r e).1] at hg; cases hg
  ·rw [(hR t r e).1]; simp [Value.ownBlock]
 generalize World.alloc _ _=W1 at hM0 ⊢;go_upto_region 3 with fail;go_loopw [4] (fun s4 wr=>∃ (f:Nat) (vB vE vF:Value) (bb cb:Nat→Nat),s4=.int .i64 f∧f≤p.funs.length∧StM p w vB vE vF (allTo p f) (cleTo p f) (stR p bb cb vB vE vF f) wr) (fun s4 _=>p.funs.length - (intOf s4).toNat)
 case atStart=>exact ⟨0,_,_,_,_,_,rfl,by omega,hM0⟩
 case round=>
  clear hM0;obtain ⟨f,vB,vE,vF,bb,cb,rfl,hf,hM⟩:=hrel;have hf0:=zi f;have hwr1:=Wi f (by omega);have hbx:=hM.bx;rw [HA.out] at hbx;obtain ⟨x0,x1,x2⟩:=bx3 hbx;by_cases hlt:f<p.funs.length
  ·have hd1:=Dt (show (f:Int)<p.funs.length by omega)
   have hd2:=Dt hlt;have hfl:(f:Int)<(p.funs.length:Int):=by omega
   have hlen:=HWF.out.len f hlt;go_upto_region 6 with fail;have hMl:=hM.lit (f+3) 3 #[] (by decide);have hMl:StM p w vB vE vF (allTo p f) (cleTo p f) (stR1 p bb cb vB vE vF f (.slice (some ⟨wr.heap.size,0,none⟩) 0 0) 0) (wr.alloc (.cells #[] 3)):=hMl;clear hM hbx x0 x1 x2;have hv50:(Value.slice (some ⟨wr.heap.size,0,none⟩) 0 0)≠.slice none 0 0:=by simp
   generalize (Value.slice (some ⟨wr.heap.size,0,none⟩) 0 0)=v50 at hMl hv50 ⊢;generalize wr.alloc _=W2 at hMl ⊢;go_upto_region 7 with fail;have HAL:Hid (∀ i,i<p.len f→accS p ((p.fn f).code.take (i+1)) (allTo p f)=accS p ((p.fn f).code.take i) (allTo p f) ||| acqBit p (p.ins f i)):=hid (fun i hi=>accS_succ hi _);have HCL:Hid (∀ i,i<p.len f→cleS p (p.fn f).clean ((p.fn f).code.take (i+1)) (cleTo p f)=if (p.fn f).clean then cleS p (p.fn f).clean ((p.fn f).code.take i) (cleTo p f) ||| acqBit p (p.ins f i) else cleS p (p.fn f).clean ((p.fn f).code.take i) (cleTo p f)):=hid (fun i hi=>cleS_succ hi _ _)
   go_loopw [5,6] (fun s5 s6 wr=>∃ (i:Nat) (v5:Value),s5=v5∧s6=.int .i64 i∧i≤p.len f∧v5≠.slice none 0 0∧StM p w vB vE vF (accS p ((p.fn f).code.take i) (allTo p f)) (cleS p (p.fn f).clean ((p.fn f).code.take i) (cleTo p f)) (stR1 p bb cb vB vE vF f v5 i) wr) (fun _ s6 _=>p.len f - (intOf s6).toNat)
   case atStart=>exact ⟨0,_,rfl,rfl,by omega,hv50,hMl⟩
   case round=>
    clear hMl;obtain ⟨i,_,rfl,rfl,hi9,hvn,hM⟩:=hrel;have hi0:=zi i;have hwr2:=Wi i (by omega);have hbx:=hM.bx;rw [HA.out] at hbx;obtain ⟨x0,x1,x2⟩:=bx3 hbx;obtain ⟨b',off',hA',hb',d4,d5⟩:=HCA.out wr hM.below f hlt;rw [HA.out] at hA';injection hA' with hA';injection hA' with h1 h2;subst h1;subst h2;by_cases hlti:i<p.len f
    ·have hd3:=Dt (show (i:Int)<p.len f by omega)
     have hd4:=Dt hlti;have hil:(i:Int)<(p.len f:Int):=by omega
     have hown:wr.ownsRow (w.heap.size+1) 3 1 _ (negs i).length (negs i):=hM.rows.own (f+3) (_,3,negs i) (upd_same _ _ _);obtain ⟨A5,C5,rfl⟩:=own_form hown;have hownA:=World.ownsRow.alloc hown (.cells #[.int .i64 (-1)] 3);have hln:=negs_len i;have hmx:(negs i).length+1≤maxLen:=by rw [hln]; unfold maxLen; omega
     have hby:((negs i).length+1) * 8≤140737488355328:=by rw [hln]; omega
     have hMa:=hM.next (below_alloc wr (.cells #[.int .i64 (-1)] 3));have hbs:w.heap.size+1≤(wr.alloc (.cells #[.int .i64 (-1)] 3)).heap.size:=by have:=hMa.size; omega
     have HMA:=hid hMa;have HM9:=hid hM;clear hM hMa hown;go_upto_region 10 with (at_builtin; refine wpList_append_own_at _ rfl (.tmp 31) (.tmp 32) _ rfl (w.heap.size+1) 3 i0 (.int .i64 0) 1 8 Tryz.underlying27 hi hz0 hz1 hz2 rfl (by omega) _ _ _ rfl hownA ⟨wr.heap.size,0,none⟩ 1 1 [.int .i64 (-1)] rfl rfl (cell_one _ _ _) (by simp [Value.oneCell']) hmx hby hbs ?_; intro v2 w3 hown2 hg2 hat2 hob2)
     have hM3:=HMA.out.app (t:=f+3) (e:=3) (xs:=negs i) (xs':=negs (i+1)) (upd_same _ _ _) hg2 (by rw [negs_len,negs_succ]; rw [hln] at hown2; exact hown2) hob2;rw [stR1_upd] at hM3;have hbA:=hM3.below;have HV2:Hid (v2≠.slice none 0 0):=hid (fun e=>absurd (hat2.1 e).2 (by decide));clear hownA hmx hby hbs hg2 hob2 hown2 hat2 hbx x0 x1 x2 d4 d5 HMA HM9 hvn;generalize hv5:v2=v5 at hM3 HV2 ⊢;clear hv5 hln;have HAQ:=hid (fun (W:World) (hb:Below w.heap.size w W)=>HAC.out W hb f i hlt hlti);have HIN:=hid (HWF.out.ins f i hlt hlti);obtain ⟨b',off',b2,off2,hA',hb',hb2,d4,d5,q0,q1,q2,q3,q4⟩:=HAT.out w3 hbA f i hlt hlti;rw [HA.out] at hA';injection hA' with hA';injection hA' with h1 h2;subst h1;subst h2;have hbx:=hM3.bx;rw [HA.out] at hbx;obtain ⟨x0,x1,x2⟩:=bx3 hbx
     have HAI:=hid (fun l (e:acq p (p.ins f i)=some l)=>acq_idx (HWF.out.ins f i hlt hlti) e);have HA1:=hid (HAL.out i hlti);have HC1:=hid (HCL.out i hlti);have hobs:=HWF.out.obs;generalize accS p ((p.fn f).code.take i) (allTo p f)=al at hM3 HA1;generalize cleS p (p.fn f).clean ((p.fn f).code.take i) (cleTo p f)=cl at hM3 HC1;generalize p.ins f i=ii at q0 q1 q2 q3 q4 HAQ HIN HAI HA1 HC1;obtain ⟨op,a,bb',cc,args,argA,argC⟩:=ii;unfold Ins.val Ins.cells at HAQ;dsimp only at q0 q1 q2 q3 q4 HAQ;rw [racq_two] at HAQ;generalize hlq:lqI p ⟨op,a,bb',cc,args,argA,argC⟩=lq at HAQ;generalize tqB p ⟨op,a,bb',cc,args,argA,argC⟩=tq at HAQ;generalize args.length=N at q4 HAQ
     refine wp_region_held_drew (S:=fun W=>W.cell? ⟨w.heap.size,0,none⟩=some (.slice (some ⟨b,off,none⟩) p.funs.length p.funC)∧W.cell? ⟨w.heap.size,1,none⟩=some (.slice p.obA p.obs.length p.obC)∧W.cell? ⟨w.heap.size,2,none⟩=some (.slice p.vrA p.vrs.length p.vrC)∧W.cell? ⟨b,off+f * 6+5,none⟩=some (.slice (some ⟨b2,off2,none⟩) (p.len f) (p.fn f).codeC)∧W.cell? ⟨b2,off2+i * 5,none⟩=some (.int .i64 op)∧W.cell? ⟨b2,off2+i * 5+1,none⟩=some (.int .i64 a)∧W.cell? ⟨b2,off2+i * 5+2,none⟩=some (.int .i64 bb')∧W.cell? ⟨b2,off2+i * 5+3,none⟩=some (.int .i64 cc)∧W.cell? ⟨b2,off2+i * 5+4,none⟩=some (.slice argA N argC)) (by kernel_rfl) ⟨x0,x1,x2,d5,q0,q1,q2,q3,q4⟩ (fun hHeld=>?_)
     have hMd:StM p w vB vE vF al cl (stR1 p bb cb vB vE vF f v5 (i+1)) w3.drew:=hM3.next (below_drews _ w3 1);clear hM3 hbx x0 x1 x2 d4 d5 q0 q1 q2 q3 q4 hbA;generalize w3.drew=wd at hMd hHeld ⊢;have HSD:=hid hHeld;refine tkH 0 rfl ?_;try simp only [frS,frO,Act.put]
     refine tkH 1 rfl ?_;try simp only [frS,frO,Act.put]
     refine tkH 2 rfl ?_;try simp only [frS,frO,Act.put]
     refine tkH 3 rfl ?_;try simp only [frS,frO,Act.put]
     refine tkH 4 rfl ?_;try simp only [frS,frO,Act.put]
     refine tkH 5 rfl ?_;try simp only [frS,frO,Act.put]
     refine tkH 6 rfl ?_;try simp only [frS,frO,Act.put]
     refine tkH 7 rfl ?_;try simp only [frS,frO,Act.put]
     refine tkH 8 rfl ?_;try simp only [frS,frO,Act.put]
     refine tkH 9 rfl ?_;try simp only [frS,frO,Act.put]
     refine rdH 10 rfl fun K hK=>?_
     go_simp;refine (HAQ.out wd hMd.below).mono ?_;rintro e W4 ⟨rfl,hb3⟩
     try dsimp only
     refine hK.out _ _ ?_ (fun hHeld=>?_)
     ·obtain ⟨h0,h1,h2,h3,h4,h5,h6,h7,h8⟩:=HSD.out; exact ⟨(hb3.cell (block_lt_of_cell h0)).trans h0,(hb3.cell (block_lt_of_cell h1)).trans h1,(hb3.cell (block_lt_of_cell h2)).trans h2,(hb3.cell (block_lt_of_cell h3)).trans h3,(hb3.cell (block_lt_of_cell h4)).trans h4,(hb3.cell (block_lt_of_cell h5)).trans h5,(hb3.cell (block_lt_of_cell h6)).trans h6,(hb3.cell (block_lt_of_cell h7)).trans h7,(hb3.cell (block_lt_of_cell h8)).trans h8⟩
     clear hK K;try simp only [frS,frO,Act.put]
     refine tkH 11 rfl ?_;try simp only [frS,frO,Act.put]
     refine tkH 12 rfl ?_;try simp only [frS,frO,Act.put]
     refine tkH 13 rfl ?_;try simp only [frS,frO,Act.put]
     refine tkH 14 rfl ?_;try simp only [frS,frO,Act.put]
     refine tkH 15 rfl ?_;try simp only [frS,frO,Act.put]
     refine wpAnyH_done (by kernel_rfl) ?_ _
     try dsimp only [Exit.then]
     have hM4:=hMd.next hb3;have d4:=(HCA.out W4 hM4.below f hlt)
     clear hHeld HSD hMd hb3 HAQ;obtain ⟨b',off',hA',hb',d4,d5⟩:=d4;rw [HA.out] at hA';injection hA' with hA';injection hA' with h1 h2;subst h1;subst h2;have hbx:=hM4.bx;rw [HA.out] at hbx;obtain ⟨x0,x1,x2⟩:=bx3 hbx;have c6:=hM4.cell (k:=6) (v:=.int .i64 (al.toNat:Int)) rfl;have fz6:=hM4.fz 6
     cases hac:acq p ⟨op,a,bb',cc,args,argA,argC⟩ with
     | none=>
      have hl2:lq = -1:=by rw [← hlq]; unfold lqI; rw [hac]
      have hab:acqBit p ⟨op,a,bb',cc,args,argA,argC⟩=0:=by unfold acqBit; rw [hac]
      have HA2:=hid (show accS p ((p.fn f).code.take (i+1)) (allTo p f)=al from by rw [HA1.out,hab,or_z]);have HC2:=hid (show cleS p (p.fn f).clean ((p.fn f).code.take (i+1)) (cleTo p f)=cl from by rw [HC1.out,hab,or_z]; split <;> rfl);clear hlq hac hab;subst hl2;go_wp2_with fail;go_round
      case rel=>exact ⟨i+1,_,rfl,rfl,by omega,HV2.out,by rw [HA2.out,HC2.out]; exact hM4⟩
      case measure=>exact ms (by omega)
     | some l=>
      have hl2:lq=l:=by rw [← hlq]; unfold lqI; rw [hac]
      obtain ⟨⟨n0,n1⟩,-⟩:=HAI.out l hac;obtain ⟨m,hm⟩:∃ m:Nat,l=(m:Int):=⟨l.toNat,by omega⟩
      have hmr:lq=(m:Int):=hl2.trans hm;have hab:acqBit p ⟨op,a,bb',cc,args,argA,argC⟩=bit m:=by unfold acqBit; rw [hac,hm]; rfl
      have HSH:=hid (shl_w (m:=m) (by omega));have g0:=Dt (show (0:Int)≤(m:Int) by omega);have hm0:=zi m;have HA2:=hid (show accS p ((p.fn f).code.take (i+1)) (allTo p f)=al ||| bit m from by rw [HA1.out,hab]);rw [hab] at HC1;clear n0 n1 hl2 hlq hab hac;subst hmr;go_upto_region 12 with fail;go_still_tail 10,(by kernel_rfl)
      change wpList _ _ _ _ _ W4.drew;have hMd:StM p w vB vE vF al cl (stR1 p bb cb vB vE vF f v5 (i+1)) W4.drew:=hM4.next (below_drews _ W4 1);generalize W4.drew=wd2 at hMd ⊢;clear hM4 c6 fz6 x0 x1 x2 d4 d5 hbx;have c6:=hMd.cell (k:=6) (v:=.int .i64 (al.toNat:Int)) rfl;have fz6:=hMd.fz 6;go_upto_region 13 with fail;rw [HSH.out,or_iv];have hM5:StM p w vB vE vF (al ||| bit m) cl (stR1 p bb cb vB vE vF f v5 (i+1)) (wd2.setCell ⟨w.heap.size+1,6,none⟩ (.int .i64 ((al ||| bit m).toNat:Int))):=hMd.store 6 _ (by simp [sCells]);clear hMd c6 fz6;generalize wd2.setCell _ _=W5 at hM5 ⊢;generalize al ||| bit m=al2 at hM5 HA2;obtain ⟨b',off',hA',hb',d4,d5⟩:=HCA.out W5 hM5.below f hlt;rw [HA.out] at hA';injection hA' with hA';injection hA' with h1 h2;subst h1;subst h2;have hbx:=hM5.bx;rw [HA.out] at hbx;obtain ⟨x0,x1,x2⟩:=bx3 hbx
      cases hcl:(p.fn f).clean with
      | false=>
       rw [hcl] at d4;have HC2:=hid (show cleS p (p.fn f).clean ((p.fn f).code.take (i+1)) (cleTo p f)=cl from by rw [HC1.out,hcl]; rfl);clear hcl;go_wp2_with fail;go_round
       case rel=>exact ⟨i+1,_,rfl,rfl,by omega,HV2.out,by rw [HA2.out,HC2.out]; exact hM5⟩
       case measure=>exact ms (by omega)
      | true=>
       rw [hcl] at d4;have HC2:=hid (show cleS p (p.fn f).clean ((p.fn f).code.take (i+1)) (cleTo p f)=cl ||| bit m from by rw [HC1.out,hcl]; rfl);have c7:=hM5.cell (k:=7) (v:=.int .i64 (cl.toNat:Int)) rfl;clear hcl;go_upto_region 14 with fail;go_still_tail 10,(by kernel_rfl)
       change wpList _ _ _ _ _ W5.drew;have hMd:StM p w vB vE vF al2 cl (stR1 p bb cb vB vE vF f v5 (i+1)) W5.drew:=hM5.next (below_drews _ W5 1);generalize W5.drew=wd3 at hMd ⊢;clear hM5 c7 x0 x1 x2 d4 d5 hbx;have c7:=hMd.cell (k:=7) (v:=.int .i64 (cl.toNat:Int)) rfl;have fz7:=hMd.fz 7;have hM6:StM p w vB vE vF al2 (cl ||| bit m) (stR1 p bb cb vB vE vF f v5 (i+1)) (wd3.setCell ⟨w.heap.size+1,7,none⟩ (.int .i64 ((cl ||| bit m).toNat:Int))):=hMd.store 7 _ (by simp [sCells]);have HM6:=hid hM6;clear hM6 hMd;go_wp2_with fail;go_round
       case rel=>exact ⟨i+1,_,rfl,rfl,by omega,HV2.out,by rw [HA2.out,HC2.out,HSH.out,or_iv]; exact HM6.out⟩
       case measure=>exact ms (by omega)
    ·have hd3:=Df (show ¬ (i:Int)<p.len f by omega)
     have hd4:=Df hlti;have hie:i=p.len f:=by omega
     have HAE:Hid (accS p ((p.fn f).code.take i) (allTo p f)=allTo p (f+1)):=hid (by rw [hie,allTo_succ hlt]; unfold Prg.len; rw [List.take_length]);have HCE:Hid (cleS p (p.fn f).clean ((p.fn f).code.take i) (cleTo p f)=cleTo p (f+1)):=hid (by rw [hie,cleTo_succ hlt]; unfold Prg.len; rw [List.take_length]);rw [HAE.out,HCE.out,hie] at hM;have HIE:=hid hie;clear hie HAE HCE HAL HCL hi9;generalize hal:allTo p (f+1)=al at hM ⊢;generalize hcl:cleTo p (f+1)=cl at hM ⊢;have HAL3:=hid hal;have HCL3:=hid hcl;clear hal hcl;go_upto_region 15 with fail;refine wp_region_held_drew (S:=fun _=>True) (by kernel_rfl) trivial (fun _=>?_);have hMd:StM p w vB vE vF al cl (stR1 p bb cb vB vE vF f u5 (p.len f)) wr.drew:=hM.next (below_drews _ wr 1);have hf32:f≤32:=by have:=HWF.out.funs.2; omega
     have hln0:(rowVals p bb cb f).length≤1000:=by unfold rowVals; rw [List.length_map,List.length_range]; omega
     have hln1:(negs f).length≤1000:=by rw [negs_len]; omega
     obtain ⟨g5,c5,hu5⟩:∃ g5 c5,u5=.slice (some ⟨g5,0,none⟩) (p.len f) c5:=row_form (hMd.rows.own (f+3) _ (upd_same _ _ _)) hvn (negs_len _);have hu1:u5.oneCell'=true:=by rw [hu5]; rfl
     have HU5:=hid hu5;clear hM hbx x0 x1 x2 d4 d5 hu5;generalize wr.drew=wd at hMd ⊢;refine tkH 0 rfl ?_;try simp only [frS,frO,Act.put]
     refine tkH 1 rfl ?_;try simp only [frS,frO,Act.put]
     refine tkH 2 rfl ?_;try simp only [frS,frO,Act.put]
     refine tkH 3 rfl ?_;try simp only [frS,frO,Act.put]
     refine tkH 4 rfl ?_;try simp only [frS,frO,Act.put]
     refine tkH 5 rfl ?_;try simp only [frS,frO,Act.put]
     refine tkH 7 rfl ?_;try simp only [frS,frO,Act.put]
     refine tkH 10 rfl ?_;try simp only [frS,frO,Act.put]
     refine tkH 11 rfl ?_;try simp only [frS,frO,Act.put]
     refine tkH 12 rfl ?_;try simp only [frS,frO,Act.put]
     refine tkH 16 rfl ?_;try simp only [frS,frO,Act.put]
     refine tkH 17 rfl ?_;try simp only [frS,frO,Act.put]
     refine tkH 18 rfl ?_;try simp only [frS,frO,Act.put]
     rename_i K hK
     refine wpAnyH_inv (Inv:=fun l a W=>l.size=31∧(∀ k∈([0,1,2,3,4,5,7,10,11,12,16,17,18]:List Nat),l.getD k false=true)∧∃ (y82 y84 y85 y89 y90 y91 y95 y96 y97 y98 y99 y100 y101 y102 y103 hB hE hF eB eE eF:Value) (x0 x1 x2:List Value) (l0 l1 l2:Option RowD),a=⟨#[.agg #[.slice (some ⟨b,off,none⟩) p.funs.length p.funC,.slice p.obA p.obs.length p.obC,.slice p.vrA p.vrs.length p.vrC],.pointer (some ⟨w.heap.size,0,none⟩),.pointer none,.pointer (some ⟨w.heap.size+1,0,none⟩),.int .i64 f,u5,.int .i64 i,u7,u8,.agg #[.slice (some ⟨b,off,none⟩) p.funs.length p.funC,.slice p.obA p.obs.length p.obC,.slice p.vrA p.vrs.length p.vrC],.agg #[.slice (some ⟨b,off,none⟩) p.funs.length p.funC,.slice p.obA p.obs.length p.obC,.slice p.vrA p.vrs.length p.vrC,.slice none 0 0,.slice none 0 0,.slice none 0 0,.int .i64 0,.int .i64 0,.bool false],.pointer (some ⟨w.heap.size+1,0,none⟩),.int .i64 f,.pointer (some ⟨w.heap.size,0,none⟩),.slice (some ⟨b,off,none⟩) p.funs.length p.funC,.int .i64 p.funs.length,.bool true,u17,u18,v50,.int .i64 i,.pointer (some ⟨w.heap.size,0,none⟩),.slice (some ⟨b,off,none⟩) p.funs.length p.funC,.int .i64 f,.pointer (some ⟨b,off+f * 6,none⟩),.pointer (some ⟨b,off+f * 6+5,none⟩),.slice (p.fn f).codeA (p.len f) (p.fn f).codeC,.int .i64 (p.len f),.bool false,u29,u30,u31,u32,u33,u34,u35,u36,u37,u38,u39,u40,u41,u42,u43,u44,u45,u46,u47,u48,u49,u50,u51,u52,u53,u54,u55,u56,u57,u58,u59,u60,u61,u62,u63,u64,u65,u66,u67,u68,u69,u70,u71,u72,u73,u74,u75,.pointer (some ⟨w.heap.size+1,0,none⟩),.pointer (some ⟨w.heap.size+1,0,none⟩),.pointer (some ⟨w.heap.size+1,0,none⟩),.pointer (some ⟨w.heap.size+1,0,none⟩),.pointer (some ⟨w.heap.size+1,0,none⟩),.pointer (some ⟨w.heap.size+1,3,none⟩),y82,u5,y84,y85,.pointer (some ⟨w.heap.size+1,0,none⟩),.pointer (some ⟨w.heap.size+1,0,none⟩),.pointer (some ⟨w.heap.size+1,4,none⟩),y89,y90,y91,.pointer (some ⟨w.heap.size+1,0,none⟩),.pointer (some ⟨w.heap.size+1,0,none⟩),.pointer (some ⟨w.heap.size+1,5,none⟩),y95,y96,y97,y98,y99,y100,y101,y102,y103,undef,undef,undef,undef,undef,undef,undef,undef],[]⟩∧Pst p w f bb cb hB hE hF al cl u5 (some (eB,27,x0)) (some (eE,3,x1)) (some (eF,3,x2)) l0 l1 l2 W∧Chn (l.getD 6 false) (l.getD 8 false) (l.getD 9 false) (l.getD 24 false) 27 vB (rowVals p bb cb f) u5 y82 y84 y85 hB eB x0 l0∧Chn (l.getD 13 false) (l.getD 14 false) (l.getD 15 false) (l.getD 27 false) 3 vE (negs f) (.int .i64 (-1)) y89 y90 y91 hE eE x1 l1∧Chn (l.getD 19 false) (l.getD 20 false) (l.getD 21 false) (l.getD 30 false) 3 vF (negs f) (.int .i64 (-1)) y95 y96 y97 hF eF x2 l2∧(l.getD 22 false=true→y98=.pointer (some ⟨w.heap.size+1,0,none⟩))∧(l.getD 23 false=true→y99=.pointer (some ⟨w.heap.size+1,3,none⟩))∧(l.getD 25 false=true→y100=.pointer (some ⟨w.heap.size+1,0,none⟩))∧(l.getD 26 false=true→y101=.pointer (some ⟨w.heap.size+1,4,none⟩))∧(l.getD 28 false=true→y102=.pointer (some ⟨w.heap.size+1,0,none⟩))∧(l.getD 29 false=true→y103=.pointer (some ⟨w.heap.size+1,5,none⟩))) ?step ?done _ _ _ _ (Nat.le_of_eq (by kernel_rfl)) ?first
     case first=>
      refine ⟨rfl,by decide,_,_,_,_,_,_,_,_,_,_,_,_,_,_,_,vB,vE,vF,vB,vE,vF,_,_,_,none,none,none,rfl,⟨_,hMd,rfl,rfl,rfl,upd_far p bb cb f 997 _ _ _ _ _ ⟨hf32,by decide⟩,upd_far p bb cb f 998 _ _ _ _ _ ⟨hf32,by decide⟩,upd_far p bb cb f 999 _ _ _ _ _ ⟨hf32,by decide⟩,upd_same _ _ _,fun t ht=>?_⟩,?_⟩
      ·unfold stR1
       rw [upd_ne _ _ (by omega)];show (if t<f then _ else _)=_;rw [if_pos ht]
      ·exact ⟨Chn.start _ _ _ _ _ _ _,Chn.start _ _ _ _ _ _ _,Chn.start _ _ _ _ _ _ _,(nomatch ·),(nomatch ·),(nomatch ·),(nomatch ·),(nomatch ·),(nomatch ·)⟩
     case done=>
      intro l a W hI hr;obtain ⟨hsz,hpu,y82,y84,y85,y89,y90,y91,y95,y96,y97,y98,y99,y100,y101,y102,y103,hB,hE,hF,eB,eE,eF,x0,x1,x2,l0,l1,l2,rfl,hP,c0,c1,c2,-⟩:=hI;have hall:∀ i,i<31→l.getD i false=true:=fun i hi'=>(getD_flip (by omega)).trans (ready_nil (by kernel_rfl) hr i (Nat.lt_of_lt_of_eq hi' (by kernel_rfl)))
      simp only [hall 6 (by decide),hall 8 (by decide),hall 9 (by decide),hall 24 (by decide),hall 13 (by decide),hall 14 (by decide),hall 15 (by decide),hall 27 (by decide),hall 19 (by decide),hall 20 (by decide),hall 21 (by decide),hall 30 (by decide)] at c0 c1 c2;clear hall hr hpu hsz;obtain ⟨ea,eb⟩:=c0.new rfl; subst ea; subst eb;obtain ⟨ea,eb⟩:=c1.new rfl; subst ea; subst eb;obtain ⟨ea,eb⟩:=c2.new rfl; subst ea; subst eb;obtain rfl:=c0.h1 rfl;obtain rfl:=c1.h1 rfl;obtain rfl:=c2.h1 rfl;have hMn:=hP.close HU5.out;dsimp only;go_upto_region 4 with fail;go_wp2_with fail;go_round
      case rel=>exact ⟨f+1,_,_,_,_,_,rfl,by omega,by rw [HAL3.out,HCL3.out]; exact hMn⟩
      case measure=>exact ms (by omega)
     case step=>
      intro l a W hI i hi;obtain ⟨hsz,hpu,y82,y84,y85,y89,y90,y91,y95,y96,y97,y98,y99,y100,y101,y102,y103,hB,hE,hF,eB,eE,eF,x0,x1,x2,l0,l1,l2,rfl,hP,c0,c1,c2,q22,q23,q25,q26,q28,q29⟩:=hI;obtain ⟨hlt,hun⟩:=ready_un hi;have hlt:i<31:=Nat.lt_of_lt_of_eq hlt (by kernel_rfl);rw [← getD_flip (by omega)] at hun;have hnp:i∉([0,1,2,3,4,5,7,10,11,12,16,17,18]:List Nat):=fun e=>by rw [hpu i e] at hun; cases hun
      obtain ⟨hd3,hd4,hd5,hfz⟩:=hP.hd;have hcs:i=6∨i=8∨i=9∨i=13∨i=14∨i=15∨i=19∨i=20∨i=21∨i=22∨i=23∨i=24∨i=25∨i=26∨i=27∨i=28∨i=29∨i=30:=by simp only [List.mem_cons,List.not_mem_nil,or_false,not_or] at hnp; omega
      clear hnp hlt;rcases hcs with rfl | rfl | rfl | rfl | rfl | rfl | rfl | rfl | rfl | rfl | rfl | rfl | rfl | rfl | rfl | rfl | rfl | rfl
      ·have hkl:6<l.size:=by omega
       rw [hun] at c0;have hn:=c0.no;rw [c0.h0 hn] at hd3;refine wpOp_step (i:=6) rfl fun K' hK'=>?_
       have HK:=hid hK';clear hK';go_simp;try simp only [frS,frO,Act.put]
       refine HK.out _ _ ⟨trivial,(by rw [Array.size_setIfInBounds]; exact hsz),(fun k hk=>by rw [getD_listed l hkl]; split; rfl; exact hpu k hk),vB,y84,y85,y89,y90,y91,y95,y96,y97,y98,y99,y100,y101,y102,y103,hB,hE,hF,eB,eE,eF,x0,x1,x2,l0,l1,l2,rfl,hP,?_⟩;simp only [getD_listed l hkl,Nat.reduceEqDiff,reduceIte,eq_self];exact ⟨c0.read,c1,c2,q22,q23,q25,q26,q28,q29⟩
      ·have hkl:8<l.size:=by omega
       have hu:=HU5.out;subst hu;refine wpOp_step (i:=8) rfl fun K' hK'=>?_
       have HK:=hid hK';clear hK';go_simp;try simp only [frS,frO,Act.put]
       refine HK.out _ _ ⟨trivial,(by rw [Array.size_setIfInBounds]; exact hsz),(fun k hk=>by rw [getD_listed l hkl]; split; rfl; exact hpu k hk),y82,(.slice (some ⟨W.heap.size,0,none⟩) 1 1),y85,y89,y90,y91,y95,y96,y97,y98,y99,y100,y101,y102,y103,hB,hE,hF,eB,eE,eF,x0,x1,x2,(some (.slice (some ⟨W.heap.size,0,none⟩) 1 1,27,[(.slice (some ⟨g5,0,none⟩) (p.len f) c5)])),l1,l2,rfl,hP.lit0 hf32 (.slice (some ⟨g5,0,none⟩) (p.len f) c5),?_⟩;simp only [getD_listed l hkl,Nat.reduceEqDiff,reduceIte,eq_self];exact ⟨c0.lay _,c1,c2,q22,q23,q25,q26,q28,q29⟩
      ·have hkl:9<l.size:=by omega
       rw [hun] at c0;have ey:=c0.load (ready_dep hi (d:=6) (by kernel_rfl));subst y82;obtain ⟨g,rfl,el⟩:=c0.lit (ready_dep hi (d:=8) (by kernel_rfl));subst el;have hns:=c0.no2;obtain ⟨ea,eb⟩:=c0.old rfl;subst eB;subst x0;obtain ⟨v',W',hr,hP'⟩:=hP.app0 hu1 hln0;refine wpOp_step (i:=9) rfl fun K' hK'=>?_
       have HK:=hid hK';clear hK';refine step_append_run rfl (.tmp 82) (.tmp 84) _ rfl rfl rfl hr ?_;try simp only [frS,frO,Act.put]
       refine HK.out _ _ ⟨trivial,(by rw [Array.size_setIfInBounds]; exact hsz),(fun k hk=>by rw [getD_listed l hkl]; split; rfl; exact hpu k hk),vB,(.slice (some ⟨g,0,none⟩) 1 1),v',y89,y90,y91,y95,y96,y97,y98,y99,y100,y101,y102,y103,hB,hE,hF,v',eE,eF,(rowVals p bb cb f++[u5]),x1,x2,(some (.slice (some ⟨g,0,none⟩) 1 1,27,[u5])),l1,l2,rfl,hP',?_⟩;simp only [getD_listed l hkl,Nat.reduceEqDiff,reduceIte,eq_self];exact ⟨c0.app (ready_dep hi (d:=6) (by kernel_rfl)) hns v',c1,c2,q22,q23,q25,q26,q28,q29⟩
      ·have hkl:13<l.size:=by omega
       rw [hun] at c1;have hn:=c1.no;rw [c1.h0 hn] at hd4;refine wpOp_step (i:=13) rfl fun K' hK'=>?_
       have HK:=hid hK';clear hK';go_simp;try simp only [frS,frO,Act.put]
       refine HK.out _ _ ⟨trivial,(by rw [Array.size_setIfInBounds]; exact hsz),(fun k hk=>by rw [getD_listed l hkl]; split; rfl; exact hpu k hk),y82,y84,y85,vE,y90,y91,y95,y96,y97,y98,y99,y100,y101,y102,y103,hB,hE,hF,eB,eE,eF,x0,x1,x2,l0,l1,l2,rfl,hP,?_⟩;simp only [getD_listed l hkl,Nat.reduceEqDiff,reduceIte,eq_self];exact ⟨c0,c1.read,c2,q22,q23,q25,q26,q28,q29⟩
      ·have hkl:14<l.size:=by omega
       refine wpOp_step (i:=14) rfl fun K' hK'=>?_
       have HK:=hid hK';clear hK';go_simp;try simp only [frS,frO,Act.put]
       refine HK.out _ _ ⟨trivial,(by rw [Array.size_setIfInBounds]; exact hsz),(fun k hk=>by rw [getD_listed l hkl]; split; rfl; exact hpu k hk),y82,y84,y85,y89,(.slice (some ⟨W.heap.size,0,none⟩) 1 1),y91,y95,y96,y97,y98,y99,y100,y101,y102,y103,hB,hE,hF,eB,eE,eF,x0,x1,x2,l0,(some (.slice (some ⟨W.heap.size,0,none⟩) 1 1,3,[(.int .i64 (-1))])),l2,rfl,hP.lit1 hf32 (.int .i64 (-1)),?_⟩;simp only [getD_listed l hkl,Nat.reduceEqDiff,reduceIte,eq_self];exact ⟨c0,c1.lay _,c2,q22,q23,q25,q26,q28,q29⟩
      ·have hkl:15<l.size:=by omega
       rw [hun] at c1;have ey:=c1.load (ready_dep hi (d:=13) (by kernel_rfl));subst y89;obtain ⟨g,rfl,el⟩:=c1.lit (ready_dep hi (d:=14) (by kernel_rfl));subst el;have hns:=c1.no2;obtain ⟨ea,eb⟩:=c1.old rfl;subst eE;subst x1;obtain ⟨v',W',hr,hP'⟩:=hP.app1 rfl hln1;refine wpOp_step (i:=15) rfl fun K' hK'=>?_
       have HK:=hid hK';clear hK';refine step_append_run rfl (.tmp 89) (.tmp 90) _ rfl rfl rfl hr ?_;try simp only [frS,frO,Act.put]
       refine HK.out _ _ ⟨trivial,(by rw [Array.size_setIfInBounds]; exact hsz),(fun k hk=>by rw [getD_listed l hkl]; split; rfl; exact hpu k hk),y82,y84,y85,vE,(.slice (some ⟨g,0,none⟩) 1 1),v',y95,y96,y97,y98,y99,y100,y101,y102,y103,hB,hE,hF,eB,v',eF,x0,(negs f++[.int .i64 (-1)]),x2,l0,(some (.slice (some ⟨g,0,none⟩) 1 1,3,[.int .i64 (-1)])),l2,rfl,hP',?_⟩;simp only [getD_listed l hkl,Nat.reduceEqDiff,reduceIte,eq_self];exact ⟨c0,c1.app (ready_dep hi (d:=13) (by kernel_rfl)) hns v',c2,q22,q23,q25,q26,q28,q29⟩
      ·have hkl:19<l.size:=by omega
       rw [hun] at c2;have hn:=c2.no;rw [c2.h0 hn] at hd5;refine wpOp_step (i:=19) rfl fun K' hK'=>?_
       have HK:=hid hK';clear hK';go_simp;try simp only [frS,frO,Act.put]
       refine HK.out _ _ ⟨trivial,(by rw [Array.size_setIfInBounds]; exact hsz),(fun k hk=>by rw [getD_listed l hkl]; split; rfl; exact hpu k hk),y82,y84,y85,y89,y90,y91,vF,y96,y97,y98,y99,y100,y101,y102,y103,hB,hE,hF,eB,eE,eF,x0,x1,x2,l0,l1,l2,rfl,hP,?_⟩;simp only [getD_listed l hkl,Nat.reduceEqDiff,reduceIte,eq_self];exact ⟨c0,c1,c2.read,q22,q23,q25,q26,q28,q29⟩
      ·have hkl:20<l.size:=by omega
       refine wpOp_step (i:=20) rfl fun K' hK'=>?_
       have HK:=hid hK';clear hK';go_simp;try simp only [frS,frO,Act.put]
       refine HK.out _ _ ⟨trivial,(by rw [Array.size_setIfInBounds]; exact hsz),(fun k hk=>by rw [getD_listed l hkl]; split; rfl; exact hpu k hk),y82,y84,y85,y89,y90,y91,y95,(.slice (some ⟨W.heap.size,0,none⟩) 1 1),y97,y98,y99,y100,y101,y102,y103,hB,hE,hF,eB,eE,eF,x0,x1,x2,l0,l1,(some (.slice (some ⟨W.heap.size,0,none⟩) 1 1,3,[(.int .i64 (-1))])),rfl,hP.lit2 hf32 (.int .i64 (-1)),?_⟩;simp only [getD_listed l hkl,Nat.reduceEqDiff,reduceIte,eq_self];exact ⟨c0,c1,c2.lay _,q22,q23,q25,q26,q28,q29⟩
      ·have hkl:21<l.size:=by omega
       rw [hun] at c2;have ey:=c2.load (ready_dep hi (d:=19) (by kernel_rfl));subst y95;obtain ⟨g,rfl,el⟩:=c2.lit (ready_dep hi (d:=20) (by kernel_rfl));subst el;have hns:=c2.no2;obtain ⟨ea,eb⟩:=c2.old rfl;subst eF;subst x2;obtain ⟨v',W',hr,hP'⟩:=hP.app2 rfl hln1;refine wpOp_step (i:=21) rfl fun K' hK'=>?_
       have HK:=hid hK';clear hK';refine step_append_run rfl (.tmp 95) (.tmp 96) _ rfl rfl rfl hr ?_;try simp only [frS,frO,Act.put]
       refine HK.out _ _ ⟨trivial,(by rw [Array.size_setIfInBounds]; exact hsz),(fun k hk=>by rw [getD_listed l hkl]; split; rfl; exact hpu k hk),y82,y84,y85,y89,y90,y91,vF,(.slice (some ⟨g,0,none⟩) 1 1),v',y98,y99,y100,y101,y102,y103,hB,hE,hF,eB,eE,v',x0,x1,(negs f++[.int .i64 (-1)]),l0,l1,(some (.slice (some ⟨g,0,none⟩) 1 1,3,[.int .i64 (-1)])),rfl,hP',?_⟩;simp only [getD_listed l hkl,Nat.reduceEqDiff,reduceIte,eq_self];exact ⟨c0,c1,c2.app (ready_dep hi (d:=19) (by kernel_rfl)) hns v',q22,q23,q25,q26,q28,q29⟩
      ·have hkl:22<l.size:=by omega
       refine wpOp_step (i:=22) rfl fun K' hK'=>?_
       have HK:=hid hK';clear hK';go_simp;try simp only [frS,frO,Act.put]
       refine HK.out _ _ ⟨trivial,(by rw [Array.size_setIfInBounds]; exact hsz),(fun k hk=>by rw [getD_listed l hkl]; split; rfl; exact hpu k hk),y82,y84,y85,y89,y90,y91,y95,y96,y97,.pointer (some ⟨w.heap.size+1,0,none⟩),y99,y100,y101,y102,y103,hB,hE,hF,eB,eE,eF,x0,x1,x2,l0,l1,l2,rfl,hP,?_⟩;simp only [getD_listed l hkl,Nat.reduceEqDiff,reduceIte,eq_self];exact ⟨c0,c1,c2,(by intros; first | rfl | trivial),q23,q25,q26,q28,q29⟩
      ·have hkl:23<l.size:=by omega
       obtain rfl:=q22 (ready_dep hi (d:=22) (by kernel_rfl));refine wpOp_step (i:=23) rfl fun K' hK'=>?_
       have HK:=hid hK';clear hK';go_simp;try simp only [frS,frO,Act.put]
       refine HK.out _ _ ⟨trivial,(by rw [Array.size_setIfInBounds]; exact hsz),(fun k hk=>by rw [getD_listed l hkl]; split; rfl; exact hpu k hk),y82,y84,y85,y89,y90,y91,y95,y96,y97,.pointer (some ⟨w.heap.size+1,0,none⟩),.pointer (some ⟨w.heap.size+1,3,none⟩),y100,y101,y102,y103,hB,hE,hF,eB,eE,eF,x0,x1,x2,l0,l1,l2,rfl,hP,?_⟩;simp only [getD_listed l hkl,Nat.reduceEqDiff,reduceIte,eq_self];exact ⟨c0,c1,c2,(by intros; first | rfl | trivial),(by intros; first | rfl | trivial),q25,q26,q28,q29⟩
      ·have hkl:24<l.size:=by omega
       obtain rfl:=q23 (ready_dep hi (d:=23) (by kernel_rfl));have dc:=(ready_dep hi (d:=9) (by kernel_rfl))
       obtain ⟨ea,eb⟩:=c0.new dc;subst eB;obtain ⟨A9,n9,c9,ef⟩:=hP.form0;subst y85;have hfz':=hfz 3;refine wpOp_step (i:=24) rfl fun K' hK'=>?_
       have HK:=hid hK';clear hK';go_simp;try simp only [frS,frO,Act.put]
       refine HK.out _ _ ⟨trivial,(by rw [Array.size_setIfInBounds]; exact hsz),(fun k hk=>by rw [getD_listed l hkl]; split; rfl; exact hpu k hk),y82,y84,(.slice A9 n9 c9),y89,y90,y91,y95,y96,y97,y98,.pointer (some ⟨w.heap.size+1,3,none⟩),y100,y101,y102,y103,(.slice A9 n9 c9),hE,hF,(.slice A9 n9 c9),eE,eF,x0,x1,x2,l0,l1,l2,rfl,hP.put3 _,?_⟩;simp only [getD_listed l hkl,Nat.reduceEqDiff,reduceIte,eq_self];exact ⟨c0.put dc,c1,c2,q22,(by intros; first | rfl | trivial),q25,q26,q28,q29⟩
      ·have hkl:25<l.size:=by omega
       refine wpOp_step (i:=25) rfl fun K' hK'=>?_
       have HK:=hid hK';clear hK';go_simp;try simp only [frS,frO,Act.put]
       refine HK.out _ _ ⟨trivial,(by rw [Array.size_setIfInBounds]; exact hsz),(fun k hk=>by rw [getD_listed l hkl]; split; rfl; exact hpu k hk),y82,y84,y85,y89,y90,y91,y95,y96,y97,y98,y99,.pointer (some ⟨w.heap.size+1,0,none⟩),y101,y102,y103,hB,hE,hF,eB,eE,eF,x0,x1,x2,l0,l1,l2,rfl,hP,?_⟩;simp only [getD_listed l hkl,Nat.reduceEqDiff,reduceIte,eq_self];exact ⟨c0,c1,c2,q22,q23,(by intros; first | rfl | trivial),q26,q28,q29⟩
      ·have hkl:26<l.size:=by omega
       obtain rfl:=q25 (ready_dep hi (d:=25) (by kernel_rfl));refine wpOp_step (i:=26) rfl fun K' hK'=>?_
       have HK:=hid hK';clear hK';go_simp;try simp only [frS,frO,Act.put]
       refine HK.out _ _ ⟨trivial,(by rw [Array.size_setIfInBounds]; exact hsz),(fun k hk=>by rw [getD_listed l hkl]; split; rfl; exact hpu k hk),y82,y84,y85,y89,y90,y91,y95,y96,y97,y98,y99,.pointer (some ⟨w.heap.size+1,0,none⟩),.pointer (some ⟨w.heap.size+1,4,none⟩),y102,y103,hB,hE,hF,eB,eE,eF,x0,x1,x2,l0,l1,l2,rfl,hP,?_⟩;simp only [getD_listed l hkl,Nat.reduceEqDiff,reduceIte,eq_self];exact ⟨c0,c1,c2,q22,q23,(by intros; first | rfl | trivial),(by intros; first | rfl | trivial),q28,q29⟩
      ·have hkl:27<l.size:=by omega
       obtain rfl:=q26 (ready_dep hi (d:=26) (by kernel_rfl));have dc:=(ready_dep hi (d:=15) (by kernel_rfl))
       obtain ⟨ea,eb⟩:=c1.new dc;subst eE;obtain ⟨A9,n9,c9,ef⟩:=hP.form1;subst y91;have hfz':=hfz 4;refine wpOp_step (i:=27) rfl fun K' hK'=>?_
       have HK:=hid hK';clear hK';go_simp;try simp only [frS,frO,Act.put]
       refine HK.out _ _ ⟨trivial,(by rw [Array.size_setIfInBounds]; exact hsz),(fun k hk=>by rw [getD_listed l hkl]; split; rfl; exact hpu k hk),y82,y84,y85,y89,y90,(.slice A9 n9 c9),y95,y96,y97,y98,y99,y100,.pointer (some ⟨w.heap.size+1,4,none⟩),y102,y103,hB,(.slice A9 n9 c9),hF,eB,(.slice A9 n9 c9),eF,x0,x1,x2,l0,l1,l2,rfl,hP.put4 _,?_⟩;simp only [getD_listed l hkl,Nat.reduceEqDiff,reduceIte,eq_self];exact ⟨c0,c1.put dc,c2,q22,q23,q25,(by intros; first | rfl | trivial),q28,q29⟩
      ·have hkl:28<l.size:=by omega
       refine wpOp_step (i:=28) rfl fun K' hK'=>?_
       have HK:=hid hK';clear hK';go_simp;try simp only [frS,frO,Act.put]
       refine HK.out _ _ ⟨trivial,(by rw [Array.size_setIfInBounds]; exact hsz),(fun k hk=>by rw [getD_listed l hkl]; split; rfl; exact hpu k hk),y82,y84,y85,y89,y90,y91,y95,y96,y97,y98,y99,y100,y101,.pointer (some ⟨w.heap.size+1,0,none⟩),y103,hB,hE,hF,eB,eE,eF,x0,x1,x2,l0,l1,l2,rfl,hP,?_⟩;simp only [getD_listed l hkl,Nat.reduceEqDiff,reduceIte,eq_self];exact ⟨c0,c1,c2,q22,q23,q25,q26,(by intros; first | rfl | trivial),q29⟩
      ·have hkl:29<l.size:=by omega
       obtain rfl:=q28 (ready_dep hi (d:=28) (by kernel_rfl));refine wpOp_step (i:=29) rfl fun K' hK'=>?_
       have HK:=hid hK';clear hK';go_simp;try simp only [frS,frO,Act.put]
       refine HK.out _ _ ⟨trivial,(by rw [Array.size_setIfInBounds]; exact hsz),(fun k hk=>by rw [getD_listed l hkl]; split; rfl; exact hpu k hk),y82,y84,y85,y89,y90,y91,y95,y96,y97,y98,y99,y100,y101,.pointer (some ⟨w.heap.size+1,0,none⟩),.pointer (some ⟨w.heap.size+1,5,none⟩),hB,hE,hF,eB,eE,eF,x0,x1,x2,l0,l1,l2,rfl,hP,?_⟩;simp only [getD_listed l hkl,Nat.reduceEqDiff,reduceIte,eq_self];exact ⟨c0,c1,c2,q22,q23,q25,q26,(by intros; first | rfl | trivial),(by intros; first | rfl | trivial)⟩
      ·have hkl:30<l.size:=by omega
       obtain rfl:=q29 (ready_dep hi (d:=29) (by kernel_rfl));have dc:=(ready_dep hi (d:=21) (by kernel_rfl))
       obtain ⟨ea,eb⟩:=c2.new dc;subst eF;obtain ⟨A9,n9,c9,ef⟩:=hP.form2;subst y97;have hfz':=hfz 5;refine wpOp_step (i:=30) rfl fun K' hK'=>?_
       have HK:=hid hK';clear hK';go_simp;try simp only [frS,frO,Act.put]
       refine HK.out _ _ ⟨trivial,(by rw [Array.size_setIfInBounds]; exact hsz),(fun k hk=>by rw [getD_listed l hkl]; split; rfl; exact hpu k hk),y82,y84,y85,y89,y90,y91,y95,y96,(.slice A9 n9 c9),y98,y99,y100,y101,y102,.pointer (some ⟨w.heap.size+1,5,none⟩),hB,hE,(.slice A9 n9 c9),eB,eE,(.slice A9 n9 c9),x0,x1,x2,l0,l1,l2,rfl,hP.put5 _,?_⟩;simp only [getD_listed l hkl,Nat.reduceEqDiff,reduceIte,eq_self];exact ⟨c0,c1,c2.put dc,q22,q23,q25,q26,q28,(by intros; first | rfl | trivial)⟩
  ·have hd1:=Df (show ¬ (f:Int)<p.funs.length by omega)
   have hd2:=Df hlt;have hfe:f=p.funs.length:=by omega
   subst hfe;obtain ⟨L,hLA,hLl,hm,eE⟩:=hM.toR hfn.1 (HL.out.below hM.below);have hbel:=hM.below;have c4:=hM.cell (k:=4) (v:=vE) rfl;rw [eE] at c4;clear eE hM;have HR:=HRA.out L wr (startM p) hm;rw [hLA] at HR;have HR:=hid HR;have hn0:(0:Int)<(p.funs.length:Int):=by omega
   have hn1:0<p.funs.length:=hfn.1;have hd5:decide ((0:Int)<(p.funs.length:Int))=true:=decide_eq_true hn0;have hd6:=Dt hn1;have HM:=hid hm;clear hm HRA HAC HCA HAT;go_upto_region 16 with fail;go_wp2_with fail;refine HR.out.mono ?_;rintro e W6 ⟨rfl,hm6,ht6⟩;go_wp2_with fail;go_ret;exact ⟨L,by rw [hLA]; rfl,hm6,Nat.le_of_eq hLl.symm,hbel.trans (by rw [← hLl]; exact ht6.below (by rw [hLl]; exact hbel.size))⟩
end Go.Proofs.YtkpjdanfpolimaaGreat
