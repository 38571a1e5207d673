/- lockorder's open, walked. Conditions: the analysis lies in memory, the program is valid. -/
import Derived.Test.YtkpjdanfpolimaaGreatLcFrom
import Derived.Test.YtkpjdanfpolimaaGreatLcRndW
set_option linter.unusedSimpArgs false
set_option maxRecDepth 100000
set_option maxHeartbeats 6400000
namespace Go.Proofs.YtkpjdanfpolimaaGreat
open Go.RowKit Go.Shelf
attribute [local go_sem] Oper.semAt_some
theorem Turn.below2 {lo hi B:Nat} {w W W':World} (h:Turn lo hi w W) (hb:Below B W W') (hB:w.heap.size≤B):Turn lo hi w W':=
 ⟨hb.os.trans h.os,hb.tape.trans h.tape,hb.output.trans h.output,Nat.le_trans h.size hb.size,fun k hk hr=>(hb.block k (by omega)).trans (h.block k hk hr)⟩
structure OpI (p:Prg) (L:Lay) (c f:Nat) (e:Int) (s:S) (W:World):Prop where
 mem:Mem p L W s
 ab:Bx W c [.pointer (some ⟨L.A,0,none⟩)]
 fb:Bx W (c+1) [.int .i64 f]
 eb:Bx W (c+2) [.int .i64 e]
 hc:L.hi≤c
 size:c+3≤W.heap.size
theorem OpI.below {p:Prg} {L:Lay} {c f B:Nat} {e:Int} {s:S} {W W':World} (h:OpI p L c f e s W) (hb:Below B W W') (hB:c+3≤B):OpI p L c f e s W':=
 ⟨h.mem.below' (hb.mono (by have:=h.hc; omega)),h.ab.below hb (by omega),h.fb.below hb (by omega),h.eb.below hb (by omega),h.hc,Nat.le_trans h.size hb.size⟩
theorem OpI.turn {p:Prg} {L:Lay} {c f:Nat} {e:Int} {s s':S} {W W':World} (h:OpI p L c f e s W) (hm:Mem p L W' s') (ht:Turn L.lo L.hi W W'):OpI p L c f e s' W':=
 have hc:=h.hc;have hz:=h.size
 ⟨hm,h.ab.turn ht (by omega) (by omega),h.fb.turn ht (by omega) (by omega),h.eb.turn ht (by omega) (by omega),hc,Nat.le_trans hz ht.size⟩
theorem wpIn_strict {F:Fence} {n:Nat} {P:Program} {c:Code} {K:Act→World→Prop} {R:Exit→Act→World→Prop} {a:Act} {w:World} (h:c.wpIn F n P (Exit.then K (fun _ _ _=>False)) a w):c.wpIn F n P (Exit.then K R) a w:=
 wpIn_mono h (fun e _ _ hh=>by
  cases e with
  | normal=>exact hh
  | ret=>exact hh.elim
  | exit _=>exact hh.elim
  | goto _=>exact hh.elim
  | panic _=>exact hh.elim
  | outgrown=>exact hh.elim)
theorem open_any (p:Prg) (hfit:Fits p) (hv:prgOk p) (L:Lay) (s:S) (f k:Nat) (hf:f<p.funs.length) (hk:k<p.len f) (ho:(p.ins f k).op=35) (w:World) (h:Mem p L w s) :
  Calls Tryz.prog 86 #[.pointer (some ⟨L.A,0,none⟩),.int .i64 f,.int .i64 k] w (Left p L w (s.open_ p f k) (.tuple #[])):=by
 have hF:∀ f,Fence.wide.fn f:=fun _=>trivial
 have hf1:=hF 85;have hf2:=hF 111;have hf3:=hF 112;have hW:=wf_of hv;have hl:=hW.len f hf;obtain ⟨he0,he1⟩:=(hW.ins f k hf hk).open_ ho;obtain ⟨e,hee⟩:∃ e:Nat,(p.ins f k).c=e:=⟨(p.ins f k).c.toNat,by omega⟩
 have hel:e<p.len f:=by
  have:(p.fn f).code.length=p.len f:=rfl;omega
 have HRE:=hid (fun (W:World) (s:S) (hm:Mem p L W s) (l:BS)=>reach_any p L W s hm f e ⟨hf,hel⟩ l);obtain ⟨b,off,b2,off2,hA,hb,hb2,-,d5,q0,q1,q2,q3,q4⟩:=h.prog.at_ hf hk;rw [hee] at q3;have f0:=zi f;have f1:(f:Int)<(p.funs.length:Int):=by omega
 have k0:=zi k;have k1:(k:Int)<(p.len f:Int):=by omega
 have HMM:=hid h;have HA:=hid hA;have HD5:=hid d5;unfold sv at HRE;clear he0 he1 q0 q1 q2 q4;refine (callsIn_wide (n:=3)).1 ?_;refine callsIn_of_wp_marks Tryz.func86 rfl trivial ?_ rfl;simp only [Tryz.ntmps86,List.size_toArray,List.length_cons,List.length_nil,Nat.reduceAdd,Nat.reduceSub,Array.replicate_succ,Array.replicate_zero,List.push_toArray,List.append_toArray,List.nil_append,List.cons_append];gi_upto_region 1 with fail;have hT:=two_new w #[.pointer (some ⟨L.A,0,none⟩)] #[.int .i64 f] 76 3;have hz2:((w.alloc (.cells #[.pointer (some ⟨L.A,0,none⟩)] 76)).alloc (.cells #[.int .i64 f] 3)).heap.size=w.heap.size+2:=by simp
 generalize ((w.alloc _).alloc _)=w2 at hT hz2 ⊢;have hm2:=h.below hT.below;have hh:=h.hi;have p0:=hT.fst 0 _ rfl;have y0:=hT.snd 0 _ rfl;have c0:=hm2.c0;rw [hA] at c0;have D5:=(hT.below.cell (p:=⟨b,off+f * 6+5,none⟩) (by show b<_; omega)).trans d5;have Q3:=(hT.below.cell (p:=⟨b2,off2+k * 5+3,none⟩) (by show b2<_; omega)).trans q3;clear hA d5 q3 h;have hS:(w2.cell? ⟨w.heap.size,0,none⟩=some (.pointer (some ⟨L.A,0,none⟩))∧w2.cell? ⟨w.heap.size+1,0,none⟩=some (.int .i64 f)∧w2.cell? ⟨L.A,0,none⟩=some (.slice (some ⟨b,off,none⟩) p.funs.length p.funC)∧w2.cell? ⟨b,off+f * 6+5,none⟩=some (.slice (some ⟨b2,off2,none⟩) (p.len f) (p.fn f).codeC)∧w2.cell? ⟨b2,off2+k * 5+3,none⟩=some (.int .i64 e)):=⟨p0,y0,c0,D5,Q3⟩
 clear p0 y0 c0 D5 Q3;gi_wp2;refine wpIn_strict ?_;refine wp_region_wide (S:=fun w'=>w'.cell? ⟨w.heap.size,0,none⟩=some (.pointer (some ⟨L.A,0,none⟩))∧w'.cell? ⟨w.heap.size+1,0,none⟩=some (.int .i64 f)∧w'.cell? ⟨L.A,0,none⟩=some (.slice (some ⟨b,off,none⟩) p.funs.length p.funC)∧w'.cell? ⟨b,off+f * 6+5,none⟩=some (.slice (some ⟨b2,off2,none⟩) (p.len f) (p.fn f).codeC)∧w'.cell? ⟨b2,off2+k * 5+3,none⟩=some (.int .i64 e)) (by kernel_rfl) (by kernel_rfl) (fun h=>by obtain ⟨_,_,h⟩:=h; exact h) hS (fun hHeld=>?_)
 have hS2:∀ q:Obj,((w2.alloc q).cell? ⟨w.heap.size,0,none⟩=some (.pointer (some ⟨L.A,0,none⟩))∧(w2.alloc q).cell? ⟨w.heap.size+1,0,none⟩=some (.int .i64 f)∧(w2.alloc q).cell? ⟨L.A,0,none⟩=some (.slice (some ⟨b,off,none⟩) p.funs.length p.funC)∧(w2.alloc q).cell? ⟨b,off+f * 6+5,none⟩=some (.slice (some ⟨b2,off2,none⟩) (p.len f) (p.fn f).codeC)∧(w2.alloc q).cell? ⟨b2,off2+k * 5+3,none⟩=some (.int .i64 e)):=fun q=>
  ⟨((below_alloc w2 q).cell (block_lt_of_cell hS.1)).trans hS.1,((below_alloc w2 q).cell (block_lt_of_cell hS.2.1)).trans hS.2.1,((below_alloc w2 q).cell (block_lt_of_cell hS.2.2.1)).trans hS.2.2.1,((below_alloc w2 q).cell (block_lt_of_cell hS.2.2.2.1)).trans hS.2.2.2.1,((below_alloc w2 q).cell (block_lt_of_cell hS.2.2.2.2)).trans hS.2.2.2.2⟩
 have HS2:=hid hS2;clear hS2 hS;refine tkH 0 rfl ?_;try simp only [frS,Act.put]
 refine tkH 1 rfl ?_;try simp only [frS,Act.put]
 refine tkH 2 rfl ?_;try simp only [frS,Act.put]
 refine tkH 3 rfl ?_;try simp only [frS,Act.put]
 refine tkH 4 rfl ?_;try simp only [frS,Act.put]
 refine tkH 5 rfl ?_;try simp only [frS,Act.put]
 refine tkH 6 rfl ?_;try simp only [frS,Act.put]
 refine tkH 7 rfl ?_;try simp only [frS,Act.put]
 refine tkH 8 rfl ?_;try simp only [frS,Act.put]
 refine tkH 9 rfl ?_;try simp only [frS,Act.put]
 refine tkH 10 rfl ?_;try simp only [frS,Act.put]
 refine tkH 11 rfl ?_;try simp only [frS,Act.put]
 refine tkH 12 rfl ?_;try simp only [frS,Act.put]
 refine rdH 13 rfl fun K hK=>?_
 go_simp;refine hK.out _ _ ?_ (fun hHeld=>?_)
 ·exact HS2.out _
 clear hK K;try simp only [frS,Act.put]
 refine rdH 14 rfl fun K hK=>?_
 go_simp;refine hK.out _ _ ?_ (fun hHeld=>?_)
 ·exact HS2.out _
 clear hK K;try simp only [frS,Act.put]
 refine wpAnyH_done (by kernel_rfl) ?_ _;dsimp only [Exit.then];have hb3:=(below_alloc w2 (.cells #[.int .i64 (e:Int)] 3)).drew;have e3:=bx_new w2 #[.int .i64 (e:Int)] 3;rw [hz2] at e3;have hI3:OpI p L w.heap.size f e s (w2.alloc (.cells #[.int .i64 (e:Int)] 3)).drew:=⟨hm2.below hb3,fun q v hv=>(hb3.cell (by show w.heap.size<_; omega)).trans (hT.fst q v hv),fun q v hv=>(hb3.cell (by show w.heap.size+1<_; omega)).trans (hT.snd q v hv),e3,hh.2,by simp; omega⟩
 have hT3:Turn L.lo L.hi w (w2.alloc (.cells #[.int .i64 (e:Int)] 3)).drew:=(Turn.of_below hT.below).trans (Turn.of_below hb3);clear HS2 hT hm2 hb3 e3 hz2;generalize (w2.alloc _).drew=w3 at hI3 hT3 ⊢;have p0:=hI3.ab 0 _ rfl;have y0:=hI3.fb 0 _ rfl;have e0:=hI3.eb 0 _ rfl;have c4:=hI3.mem.c4;unfold sv at c4;gi_wp2;refine wpIn_strict ?_;refine wp_wide_tail 7 (by kernel_rfl) (by kernel_rfl) (fun h=>by obtain ⟨_,_,h⟩:=h; exact h) (by kernel_rfl) ?_;simp only [List.take_succ_cons,List.take_zero,List.drop_succ_cons,List.drop_zero]
 repeat still_step
 refine wpStill_nil ?_;clear p0 y0 e0 c4 hHeld;have hI4:=hI3.below (below_drews w3.heap.size w3 1) hI3.size;have hT4:=hT3.drewN 1;change OpI p L _ f e s w3.drew at hI4;change Turn _ _ w w3.drew at hT4;clear hI3 hT3;generalize w3.drew=w4 at hI4 hT4 ⊢;go_wp2_with fail;refine (HRE.out _ _ hI4.mem _).mono ?_;rintro e5 w5 ⟨rfl,hm5,ht5⟩;have hI5:=hI4.turn hm5 ht5;have hT5:=hT4.trans ht5;clear hI4 hT4 hm5 ht5;go_wp2_with fail;have HIN:=hid (insideL_any p hfit hv f k hf hk w5 (hI5.mem.prog.more (by have:=hI5.mem.hi; omega)));unfold Prg.val at HIN;have p0:=hI5.ab 0 _ rfl;have y0:=hI5.fb 0 _ rfl;have c0:=hI5.mem.c0;have c1:=hI5.mem.c1;have c2:=hI5.mem.c2;have HI5:=hid hI5;clear hI5;gi_wp2;refine wpIn_strict ?_;refine wp_wide_tail 6 (by kernel_rfl) (by kernel_rfl) (fun h=>by obtain ⟨_,_,h⟩:=h; exact h) (by kernel_rfl) ?_
 simp only [List.take_succ_cons,List.take_zero,List.drop_succ_cons,List.drop_zero]
 repeat still_step
 refine wpStill_nil ?_;clear p0 y0 c0 c1 c2;have HIN2:=hid (insideL_any p hfit hv f k hf hk w5.drew (Lies.more (B:=L.lo) (HI5.out.mem.drewN 1).prog (by have:=HI5.out.mem.hi; show _≤w5.heap.size; omega)));unfold Prg.val at HIN2;clear HIN;go_wp2_with fail;refine (HIN2.out).mono ?_;rintro e6 w6 ⟨b0,rfl,hb0,hb4,hm6,hb6⟩;have hb0':w5.heap.size≤b0:=hb0;have hb6':Below w5.heap.size w5 w6:=⟨hb6.os,hb6.tape,hb6.output,hb6.size,hb6.block⟩
 have hI6:=HI5.out.below hb6' HI5.out.size;have hT6:=hT5.trans (Turn.of_below hb6');have hz5:=HI5.out.size;have hz6:w5.heap.size≤w6.heap.size:=hb6'.size;have hfm:FromMem p L.lo b0 f (k+1) (insideStop p f k) w6:=⟨hI6.mem.prog,hm6.pb,hm6.fb,hm6.sb,hm6.eb⟩
 have hzw:w.heap.size≤w5.heap.size:=hT5.size;clear hb0 hb6 hm6 hb6' HI5 hT5 HIN2;go_wp2_with fail;unfold fromVal;gi_wp2;obtain ⟨s0,hs0⟩:∃ s0,s0=s.grow (.at_ f e) (cleanM p):=⟨_,rfl⟩
 rw [← hs0] at hI6;have HS0:=hid hs0;have HB6:=hid (show L.hi≤w6.heap.size from hI6.mem.hi.2);clear hs0 hh
 refine wpIn_rangeFunc_ac rfl (by omega) (gf:=144) (lb:=#[.pointer (some ⟨b0,0,none⟩),.pointer (some ⟨b0+1,0,none⟩),.pointer (some ⟨b0+2,0,none⟩),.pointer (some ⟨b0+3,0,none⟩)]) rfl trivial (enters_of Tryz.func144 (by kernel_rfl) rfl)
  (from_stops 2 (by omega) p hfit hv L.lo L.hi b0 f (k+1) (insideStop p f k) HMM.out.hi.1 (by have:=hI6.hc; omega) hf w6 hfm hb4)
  (fun h k=>h.trans k) (fun W l o o' _ hl hc _=>CellsKept.putObj o' hl hc) (Below.refl _ _) (fun _=>rfl)
  (fun A' B' k o hab _ ho hc=>hab.rec_ k o ho hc)
  (fun pre W=>OpI p L w.heap.size f e (pre.foldl (S.openStep p f e) s0) W∧Turn L.lo L.hi w W∧b0+4≤W.heap.size) (fun _ _ _=>False)
  (fun pre W W' row hs hg hr=>by
   have hbw:=below_grownFrom (B:=b0+4) hg (fun r e=>by have:=(hr r e).1; omega) hs.2.2;exact ⟨hs.1.below hbw (by omega),hs.2.1.below2 hbw (by omega),Nat.le_trans hs.2.2 hg.size⟩)
  (fun _=>fun _ _ _ _ h _ _=>h)
  (fun pre A' B' hs hab=>⟨hs.1.below hab.below (by omega),hs.2.1.below2 hab.below (by omega),Nat.le_trans hs.2.2 hab.below.size⟩)
  ⟨hI6,hT6,hb4⟩
  (fun x a' _=>a'={ tmps:=#[.pointer (some ⟨L.A,0,none⟩),.int .i64 f,.int .i64 k,.pointer (some ⟨w.heap.size,0,none⟩),.pointer (some ⟨w.heap.size+1,0,none⟩),undef,.pointer (some ⟨w.heap.size+2,0,none⟩),.int .i64 (x:Nat),undef,.pointer (some ⟨L.A,0,none⟩),.pointer (some ⟨L.A,0,none⟩),.pointer (some ⟨L.A,0,none⟩),.pointer (some ⟨L.A,0,none⟩),.slice (some ⟨b,off,none⟩) p.funs.length p.funC,.int .i64 f,.pointer (some ⟨b,off+f * 6,none⟩),.pointer (some ⟨b,off+f * 6+5,none⟩),.slice (some ⟨b2,off2,none⟩) (p.len f) (p.fn f).codeC,.int .i64 k,.pointer (some ⟨b2,off2+k * 5,none⟩),.pointer (some ⟨b2,off2+k * 5+3,none⟩),.int .i64 (e:Int),.pointer (some ⟨L.A,0,none⟩),.int .i64 f,.int .i64 (e:Int),.pointer (some ⟨L.A,0,none⟩),.pointer (some ⟨L.A,0,none⟩),.pointer (some ⟨L.A,4,none⟩),.int .u32 ((cleanM p).toNat:Int),.tuple #[],.pointer (some ⟨L.A,0,none⟩),.pointer (some ⟨L.A,0,none⟩),.pointer (some ⟨L.A,0,none⟩),.agg #[.slice p.funA p.funs.length p.funC,.slice p.obA p.obs.length p.obC,.slice p.vrA p.vrs.length p.vrC],.int .i64 f,.int .i64 k,.func (.func 144) #[] #[.pointer (some ⟨b0,0,none⟩),.pointer (some ⟨b0+1,0,none⟩),.pointer (some ⟨b0+2,0,none⟩),.pointer (some ⟨b0+3,0,none⟩)],.int .i64 (x:Nat),undef,undef,undef,undef,undef,undef,undef,undef,undef,undef,undef,undef,undef,undef,undef,undef,undef,undef,undef,undef,undef,undef,undef,undef,undef,undef,undef,undef,undef,undef,undef,undef,undef,undef,undef,undef,undef,undef,undef,undef,undef,undef,undef,undef,undef,undef,undef,undef],defers:=[] })
  (fun _ _ _ _ _ hs _ _=>hs) ?assign ?body ?done ?stop
 case assign=>
  rintro l pre x W K hJ hK;gi_wp2;exact hK _ _ (KeepsFrom.refl _ _) (CellsKept.refl _ _ _) hJ rfl
 case stop=>rintro D c' pre W hD _ hno hK; exact hno.elim
 case done=>
  rintro D ys W hD rfl ⟨hI,hT,hsW⟩ hK;have HRES:=hid (show s.open_ p f k=(fromL p f (k+1) (insideStop p f k)).foldl (S.openStep p f e) s0 from by unfold S.open_; rw [insideM_eq,hee,HS0.out]; rfl);gi_wp2;have hgD:=grownBy_putObj' W D (.deferred none);refine ⟨by simp,.inl ⟨_,_,rfl,run_takeDeferred hK,?_⟩⟩;refine ⟨_,results_none rfl _ _ _,?_⟩;have hbw:=below_grownFrom (B:=b0+4) hgD (fun r e=>by cases e; omega) hsW;exact ⟨rfl,by rw [HRES.out]; exact (hI.below hbw (by omega)).mem,hT.below2 hbw (by omega)⟩
 case body=>
  rintro lp pre x a' W ⟨hI,hT,hsW⟩ rfl hpre;have hxl:x<p.len f:=from_mem (hpre.subset (by simp));have x0':(0:Int)≤(x:Int):=by omega
  have x1':(x:Int)<(p.len f:Int):=by omega
  have HFO:=hid (show (pre++[x]).foldl (S.openStep p f e) s0=S.openStep p f e (pre.foldl (S.openStep p f e) s0) x from by rw [List.foldl_append]; rfl);generalize pre.foldl (S.openStep p f e) s0=sj at hI HFO;have p0:=hI.ab 0 _ rfl;have y0:=hI.fb 0 _ rfl;have c9:=hI.mem.c9;have cR:=hI.mem.outR f hf;have ck:=(hI.mem.slot (.at_ f x) ⟨hf,hxl⟩).1.1;unfold Lay.kA at ck;dsimp only at ck;have HI:=hid hI;clear hI
  cases hre:(sj.get (.at_ f x)).1 with
  | false=>
   have HSV:=hid (show (pre++[x]).foldl (S.openStep p f e) s0=sj from by rw [HFO.out]; unfold S.openStep; rw [hre]; rfl);rw [hre] at ck;clear hre HFO;gi_wp2;refine wp_round_quiet (by kernel_rfl) (by kernel_rfl) (fun h=>by obtain ⟨_,_,h⟩:=h; exact h) (by kernel_rfl) ?_
   repeat (go_big_quiet_step (fail))
   refine wpQuiet_nil ?_;rintro _ ⟨nq,rfl⟩;have hI2:=HI.out.below (below_drews W.heap.size W nq) HI.out.size;have hT0:Turn L.lo L.hi W (W.drewN nq):=(Turn.refl _ _ _).drewN nq;have hT2:=hT.trans hT0;have hs2:b0+4≤(W.drewN nq).heap.size:=hsW;generalize W.drewN nq=W0 at hI2 hT0 hT2 hs2 ⊢;gi_wp2;exact ⟨KeepsFrom.turn hT0 HB6.out,CellsKept.turn hT0,by rw [HSV.out]; exact hI2,hT2,hs2⟩
  | true=>
   have HST:=hid (show (pre++[x]).foldl (S.openStep p f e) s0=if (p.ins f x).op=15 then (sj.grow (.at_ f e) (sj.get (.at_ f x)).2).grow (.at_ f e) ((sj.grow (.at_ f e) (sj.get (.at_ f x)).2).within p (p.ins f x).b.toNat) else sj.grow (.at_ f e) (sj.get (.at_ f x)).2 from by rw [HFO.out]; unfold S.openStep; rw [hre]; rfl);rw [hre] at ck;clear hre HFO;gi_wp2;refine wp_round_quiet (by kernel_rfl) (by kernel_rfl) (fun h=>by obtain ⟨_,_,h⟩:=h; exact h) (by kernel_rfl) ?_
   repeat (go_big_quiet_step (fail))
   refine wpQuiet_nil ?_;rintro _ ⟨nq,rfl⟩;have hI2:=HI.out.below (below_drews W.heap.size W nq) HI.out.size;have hT0:Turn L.lo L.hi W (W.drewN nq):=(Turn.refl _ _ _).drewN nq;have hT2:=hT.trans hT0;have hs2:b0+4≤(W.drewN nq).heap.size:=hsW;generalize W.drewN nq=W0 at hI2 hT0 hT2 hs2 ⊢;clear p0 y0 c9 cR ck;have p0:=hI2.ab 0 _ rfl;have y0:=hI2.fb 0 _ rfl;have e0:=hI2.eb 0 _ rfl;have c10:=hI2.mem.c10;have cB:=hI2.mem.outB f hf;have cs:=(hI2.mem.slot (.at_ f x) ⟨hf,hxl⟩).2.1;unfold Lay.tA sv at cs;dsimp only at cs;have HI2:=hid hI2;clear hI2;generalize (sj.get (.at_ f x)).2=tt at cs HST;gi_wp2;refine wp_round_tail 13 (by kernel_rfl) (by kernel_rfl) (fun h=>by obtain ⟨_,_,h⟩:=h; exact h) (by kernel_rfl) ?_;simp only [List.take_succ_cons,List.take_zero,List.drop_succ_cons,List.drop_zero]
   repeat still_step
   refine wpStill_nil ?_;clear p0 y0 e0 c10 cB cs;have hI3:=HI2.out.below (below_drews W0.heap.size W0 1) HI2.out.size;have hT3:=hT0.drewN 1;change OpI p L _ f e sj W0.drew at hI3;change Turn _ _ W W0.drew at hT3;have hs3:b0+4≤W0.drew.heap.size:=hs2;clear HI2 hT2 hT0 hs2;generalize W0.drew=W3 at hI3 hT3 hs3 ⊢;go_wp2_with fail;refine (HRE.out _ _ hI3.mem _).mono ?_;rintro e5 W5 ⟨rfl,hm5,ht5⟩;have hI5:=hI3.turn hm5 ht5;have hT5:=hT3.trans ht5;have hs5:=Nat.le_trans hs3 ht5.size;clear hI3 hT3 hm5 ht5 hs3;generalize sj.grow (.at_ f e) tt=s5 at hI5 HST;obtain ⟨q0,q1,q2,q3,q4⟩:=code_at HMM.out.prog HMM.out.hi HA.out hb2 HD5.out hf hxl (hT.trans hT5);have p0:=hI5.ab 0 _ rfl;have y0:=hI5.fb 0 _ rfl;have c0:=hI5.mem.c0;rw [HA.out] at c0;have d5:=(hT.trans hT5).cell HD5.out (.inl (by show b<L.lo; exact hb))
   have hS7:(W5.cell? ⟨w.heap.size,0,none⟩=some (.pointer (some ⟨L.A,0,none⟩))∧W5.cell? ⟨w.heap.size+1,0,none⟩=some (.int .i64 f)∧W5.cell? ⟨L.A,0,none⟩=some (.slice (some ⟨b,off,none⟩) p.funs.length p.funC)∧W5.cell? ⟨b,off+f * 6+5,none⟩=some (.slice (some ⟨b2,off2,none⟩) (p.len f) (p.fn f).codeC)∧W5.cell? ⟨b2,off2+x * 5,none⟩=some (.int .i64 (p.ins f x).op)∧W5.cell? ⟨b2,off2+x * 5+1,none⟩=some (.int .i64 (p.ins f x).a)∧W5.cell? ⟨b2,off2+x * 5+2,none⟩=some (.int .i64 (p.ins f x).b)∧W5.cell? ⟨b2,off2+x * 5+3,none⟩=some (.int .i64 (p.ins f x).c)∧W5.cell? ⟨b2,off2+x * 5+4,none⟩=some (.slice (p.ins f x).argA (p.ins f x).args.length (p.ins f x).argC)):=⟨p0,y0,c0,d5,q0,q1,q2,q3,q4⟩
   have HS8:=hid (show ∀ q:Obj,((W5.alloc q).cell? ⟨w.heap.size,0,none⟩=some (.pointer (some ⟨L.A,0,none⟩))∧(W5.alloc q).cell? ⟨w.heap.size+1,0,none⟩=some (.int .i64 f)∧(W5.alloc q).cell? ⟨L.A,0,none⟩=some (.slice (some ⟨b,off,none⟩) p.funs.length p.funC)∧(W5.alloc q).cell? ⟨b,off+f * 6+5,none⟩=some (.slice (some ⟨b2,off2,none⟩) (p.len f) (p.fn f).codeC)∧(W5.alloc q).cell? ⟨b2,off2+x * 5,none⟩=some (.int .i64 (p.ins f x).op)∧(W5.alloc q).cell? ⟨b2,off2+x * 5+1,none⟩=some (.int .i64 (p.ins f x).a)∧(W5.alloc q).cell? ⟨b2,off2+x * 5+2,none⟩=some (.int .i64 (p.ins f x).b)∧(W5.alloc q).cell? ⟨b2,off2+x * 5+3,none⟩=some (.int .i64 (p.ins f x).c)∧(W5.alloc q).cell? ⟨b2,off2+x * 5+4,none⟩=some (.slice (p.ins f x).argA (p.ins f x).args.length (p.ins f x).argC)) from fun q=>⟨((below_alloc W5 q).cell (block_lt_of_cell hS7.1)).trans hS7.1,((below_alloc W5 q).cell (block_lt_of_cell hS7.2.1)).trans hS7.2.1,((below_alloc W5 q).cell (block_lt_of_cell hS7.2.2.1)).trans hS7.2.2.1,((below_alloc W5 q).cell (block_lt_of_cell hS7.2.2.2.1)).trans hS7.2.2.2.1,((below_alloc W5 q).cell (block_lt_of_cell hS7.2.2.2.2.1)).trans hS7.2.2.2.2.1,((below_alloc W5 q).cell (block_lt_of_cell hS7.2.2.2.2.2.1)).trans hS7.2.2.2.2.2.1,((below_alloc W5 q).cell (block_lt_of_cell hS7.2.2.2.2.2.2.1)).trans hS7.2.2.2.2.2.2.1,((below_alloc W5 q).cell (block_lt_of_cell hS7.2.2.2.2.2.2.2.1)).trans hS7.2.2.2.2.2.2.2.1,((below_alloc W5 q).cell (block_lt_of_cell hS7.2.2.2.2.2.2.2.2)).trans hS7.2.2.2.2.2.2.2.2⟩)
   clear p0 y0 c0 d5 q0 q1 q2 q3 q4;go_wp2_with fail
   try gi_wp2
   refine wp_region_round (S:=fun w'=>(w'.cell? ⟨w.heap.size,0,none⟩=some (.pointer (some ⟨L.A,0,none⟩))∧w'.cell? ⟨w.heap.size+1,0,none⟩=some (.int .i64 f)∧w'.cell? ⟨L.A,0,none⟩=some (.slice (some ⟨b,off,none⟩) p.funs.length p.funC)∧w'.cell? ⟨b,off+f * 6+5,none⟩=some (.slice (some ⟨b2,off2,none⟩) (p.len f) (p.fn f).codeC)∧w'.cell? ⟨b2,off2+x * 5,none⟩=some (.int .i64 (p.ins f x).op)∧w'.cell? ⟨b2,off2+x * 5+1,none⟩=some (.int .i64 (p.ins f x).a)∧w'.cell? ⟨b2,off2+x * 5+2,none⟩=some (.int .i64 (p.ins f x).b)∧w'.cell? ⟨b2,off2+x * 5+3,none⟩=some (.int .i64 (p.ins f x).c)∧w'.cell? ⟨b2,off2+x * 5+4,none⟩=some (.slice (p.ins f x).argA (p.ins f x).args.length (p.ins f x).argC))) (by kernel_rfl) (by kernel_rfl) (fun h=>by obtain ⟨_,_,h⟩:=h; exact h) hS7 (fun hHeld=>?_)
   clear hS7;refine tkH 0 rfl ?_;try simp only [frS,Act.put]
   refine tkH 1 rfl ?_;try simp only [frS,Act.put]
   refine tkH 2 rfl ?_;try simp only [frS,Act.put]
   refine tkH 3 rfl ?_;try simp only [frS,Act.put]
   refine tkH 4 rfl ?_;try simp only [frS,Act.put]
   refine tkH 5 rfl ?_;try simp only [frS,Act.put]
   refine tkH 6 rfl ?_;try simp only [frS,Act.put]
   refine tkH 7 rfl ?_;try simp only [frS,Act.put]
   refine tkH 8 rfl ?_;try simp only [frS,Act.put]
   refine tkH 9 rfl ?_;try simp only [frS,Act.put]
   refine tkH 10 rfl ?_;try simp only [frS,Act.put]
   refine tkH 11 rfl ?_;try simp only [frS,Act.put]
   refine rdH 12 rfl fun K hK=>?_
   go_simp;refine hK.out _ _ ?_ (fun hHeld=>?_)
   ·exact HS8.out _
   clear hK K;try simp only [frS,Act.put]
   refine rdH 13 rfl fun K hK=>?_
   go_simp;refine hK.out _ _ ?_ (fun hHeld=>?_)
   ·exact HS8.out _
   clear hK K;try simp only [frS,Act.put]
   refine wpAnyH_done (by kernel_rfl) ?_ _;dsimp only [Exit.then];have hb6:=(below_alloc W5 (.cells #[.int .i64 (p.ins f x).op,.int .i64 (p.ins f x).a,.int .i64 (p.ins f x).b,.int .i64 (p.ins f x).c,.slice (p.ins f x).argA (p.ins f x).args.length (p.ins f x).argC] 63)).drew;have hx6:Bx (W5.alloc (.cells #[.int .i64 (p.ins f x).op,.int .i64 (p.ins f x).a,.int .i64 (p.ins f x).b,.int .i64 (p.ins f x).c,.slice (p.ins f x).argA (p.ins f x).args.length (p.ins f x).argC] 63)).drew W5.heap.size [.int .i64 (p.ins f x).op,.int .i64 (p.ins f x).a,.int .i64 (p.ins f x).b,.int .i64 (p.ins f x).c,.slice (p.ins f x).argA (p.ins f x).args.length (p.ins f x).argC]:=bx_new W5 #[.int .i64 (p.ins f x).op,.int .i64 (p.ins f x).a,.int .i64 (p.ins f x).b,.int .i64 (p.ins f x).c,.slice (p.ins f x).argA (p.ins f x).args.length (p.ins f x).argC] 63;have hI6:=hI5.below hb6 hI5.size
   have hT6:=hT5.trans (Turn.of_below hb6);have hs6:=Nat.le_trans hs5 hb6.size;have hG6:W5.heap.size<(W5.alloc (.cells #[.int .i64 (p.ins f x).op,.int .i64 (p.ins f x).a,.int .i64 (p.ins f x).b,.int .i64 (p.ins f x).c,.slice (p.ins f x).argA (p.ins f x).args.length (p.ins f x).argC] 63)).drew.heap.size:=by show _<(W5.alloc _).heap.size; simp
   have hG5:L.hi≤W5.heap.size:=hI5.mem.hi.2;clear HS8 hHeld hb6 hI5 hT5 hs5;generalize (W5.alloc _).drew=W6 at hx6 hI6 hT6 hs6 hG6 ⊢;generalize W5.heap.size=G at hx6 hG6 hG5 ⊢;obtain ⟨z0,-,z2,-,-⟩:=bx5 hx6;by_cases h15:(p.ins f x).op=15
   ·have HSV:=hid (show (pre++[x]).foldl (S.openStep p f e) s0=s5.grow (.at_ f e) (s5.within p (p.ins f x).b.toNat) from by rw [HST.out,if_pos h15])
    obtain ⟨hb0',hb1'⟩:=(hW.ins f x hf hxl).call (.inl h15);obtain ⟨b9,hb9⟩:∃ b9:Nat,(p.ins f x).b=b9:=⟨(p.ins f x).b.toNat,by omega⟩
    rw [hb9,Int.toNat_natCast] at HSV;rw [hb9] at z2;rw [h15] at z0;have HWI:=hid (withinL_any p hW L s5 b9 (by omega) W6.drew (hI6.mem.drewN 1));have hS9:W6.cell? ⟨w.heap.size,0,none⟩=some (.pointer (some ⟨L.A,0,none⟩))∧W6.cell? ⟨w.heap.size+1,0,none⟩=some (.int .i64 f)∧W6.cell? ⟨w.heap.size+2,0,none⟩=some (.int .i64 (e:Int))∧W6.cell? ⟨G,2,none⟩=some (.int .i64 (b9:Int)):=⟨hI6.ab 0 _ rfl,hI6.fb 0 _ rfl,hI6.eb 0 _ rfl,z2⟩
    have HS9:=hid (fun (W':World) (hb:Below W6.heap.size W6 W')=>(⟨(hb.cell (block_lt_of_cell hS9.1)).trans hS9.1,(hb.cell (block_lt_of_cell hS9.2.1)).trans hS9.2.1,(hb.cell (block_lt_of_cell hS9.2.2.1)).trans hS9.2.2.1,(hb.cell (block_lt_of_cell hS9.2.2.2)).trans hS9.2.2.2⟩:W'.cell? ⟨w.heap.size,0,none⟩=some (.pointer (some ⟨L.A,0,none⟩))∧W'.cell? ⟨w.heap.size+1,0,none⟩=some (.int .i64 f)∧W'.cell? ⟨w.heap.size+2,0,none⟩=some (.int .i64 (e:Int))∧W'.cell? ⟨G,2,none⟩=some (.int .i64 (b9:Int))));clear h15 hb0' hb1' hb9 z2;gi_wp2
    refine wp_region_round (S:=fun w'=>w'.cell? ⟨w.heap.size,0,none⟩=some (.pointer (some ⟨L.A,0,none⟩))∧w'.cell? ⟨w.heap.size+1,0,none⟩=some (.int .i64 f)∧w'.cell? ⟨w.heap.size+2,0,none⟩=some (.int .i64 (e:Int))∧w'.cell? ⟨G,2,none⟩=some (.int .i64 (b9:Int))) (by kernel_rfl) (by kernel_rfl) (fun h=>by obtain ⟨_,_,h⟩:=h; exact h) hS9 (fun hHeld=>?_);clear hS9 z0;refine tkH 0 rfl ?_;try simp only [frS,Act.put]
    refine tkH 1 rfl ?_;try simp only [frS,Act.put]
    refine tkH 2 rfl ?_;try simp only [frS,Act.put]
    refine tkH 3 rfl ?_;try simp only [frS,Act.put]
    refine tkH 4 rfl ?_;try simp only [frS,Act.put]
    refine tkH 5 rfl ?_;try simp only [frS,Act.put]
    refine rdH 6 rfl fun K hK=>?_
    go_simp;refine (HWI.out).mono ?_;rintro e8 W8 ⟨rfl,hb8⟩;have hb8:Below W6.heap.size W6 W8:=⟨hb8.os,hb8.tape,hb8.output,hb8.size,hb8.block⟩
    try simp only []
    refine hK.out _ _ ?_ (fun hHeld=>?_)
    ·exact HS9.out _ hb8
    clear hK K;try simp only [frS,Act.put]
    refine rdH 7 rfl fun K hK=>?_
    unfold sv;go_simp;refine (HRE.out _ _ (hI6.below hb8 hI6.size).mem _).mono ?_;rintro e9 W9 ⟨rfl,hm9,ht9⟩;try simp only []
    refine hK.out _ _ ?_ (fun hHeld=>?_)
    ·exact ⟨(hI6.below hb8 hI6.size).turn hm9 ht9 |>.ab 0 _ rfl,(hI6.below hb8 hI6.size).turn hm9 ht9 |>.fb 0 _ rfl,(hI6.below hb8 hI6.size).turn hm9 ht9 |>.eb 0 _ rfl,ht9.cell (HS9.out _ hb8).2.2.2 (.inr (by show L.hi≤G; omega))⟩
    clear hK K;try simp only [frS,Act.put]
    refine wpAnyH_done (by kernel_rfl) ?_ _;have hI9:=(hI6.below hb8 hI6.size).turn hm9 ht9;have hT9:=(hT6.trans (Turn.of_below hb8)).trans ht9;have hs9:=Nat.le_trans hs6 (Nat.le_trans hb8.size ht9.size);clear hHeld hx6 hI6 hT6 hs6 hG6 HWI HS9 hb8 hm9 ht9
    try gi_wp2
    exact ⟨KeepsFrom.turn hT9 HB6.out,CellsKept.turn hT9,by rw [HSV.out]; exact hI9,hT.trans hT9,hs9⟩
   ·have HSV:=hid (show (pre++[x]).foldl (S.openStep p f e) s0=s5 from by rw [HST.out,if_neg h15])
    have e15:((p.ins f x).op == 15)=false:=by simpa using h15
    clear h15;gi_wp2;exact ⟨KeepsFrom.turn hT6 HB6.out,CellsKept.turn hT6,by rw [HSV.out]; exact hI6,hT.trans hT6,hs6⟩
