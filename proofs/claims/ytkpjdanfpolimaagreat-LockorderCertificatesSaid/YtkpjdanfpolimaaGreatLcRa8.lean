/- The reference's instruction, walked. Conditions: the analysis lies in memory, the program is valid, the instruction is reached. -/
import Derived.Test.YtkpjdanfpolimaaGreatLcRa5
import Derived.StillTailTactics
set_option linter.unusedSimpArgs false
set_option maxRecDepth 100000
set_option maxHeartbeats 12800000
namespace Go.Proofs.YtkpjdanfpolimaaGreat
open Go.RowKit Go.Shelf
theorem shl_w {m:Nat} (h:m<32):wrap64 (2 ^ min m 64)=((bit m).toNat:Int):=by
 rw [Nat.min_eq_left (show m≤64 by omega)];have h1:(2:Int) ^ m % 4294967296=((bit m).toNat:Int):=bit_sv m;have h2:(2:Nat) ^ m<2 ^ 32:=Nat.pow_lt_pow_right (by decide) h;have e3:(2:Int) ^ m=((2 ^ m:Nat):Int):=(Int.natCast_pow 2 m).symm;rw [e3] at h1 ⊢;generalize 2 ^ m=x at h1 h2 ⊢;unfold wrap64;omega
theorem andNot_iv (x y:BS):bits .andNot .i64 (x.toNat:Int) (y.toNat:Int)=((x &&& ~~~ y).toNat:Int):=by
 have h:IntKind.i64.wrap (((BitVec.ofInt 64 (x.toNat:Int) &&& ~~~ BitVec.ofInt 64 (y.toNat:Int):BitVec 64).toNat:Nat):Int)=((x &&& ~~~ y).toNat:Int):=by
  have hxy:=(x &&& ~~~ y).isLt
  have e:(BitVec.ofInt 64 (x.toNat:Int) &&& ~~~ BitVec.ofInt 64 (y.toNat:Int):BitVec 64).toNat=(x &&& ~~~ y).toNat:=by
   rw [BitVec.ofInt_natCast,BitVec.ofInt_natCast];refine Nat.eq_of_testBit_eq fun i=>?_
   rw [BitVec.testBit_toNat,BitVec.testBit_toNat,BitVec.getLsbD_and,BitVec.getLsbD_and,BitVec.getLsbD_not,BitVec.getLsbD_not,BitVec.getLsbD_ofNat,BitVec.getLsbD_ofNat,BitVec.testBit_toNat,BitVec.testBit_toNat];by_cases h:i<32
   ·have h2:i<64:=by omega
    simp [h,h2]
   ·have hx:x.getLsbD i=false:=BitVec.getLsbD_of_ge x i (by omega)
    simp [hx]
  rw [e];exact bit_i64 _ (by omega)
 exact h
theorem or_z (x:BS):x ||| 0=x:=BitVec.or_zero
def lqI (p:Prg) (i:Ins):Int:=match acq p i with | some l=>l | none=>-1
def tqB (p:Prg) (i:Ins):Bool:=match acq p i with | some _=>decide (i.op≠51) | none=>false
theorem racq_two (p:Prg) (i:Ins):racqVal p i=.tuple #[.int .i64 (lqI p i),.bool (tqB p i)]:=by
 unfold racqVal lqI tqB;cases acq p i <;> rfl
theorem rinstr_any (p:Prg) (hv:prgOk p) (L:RLay) (s:S) (f k:Nat) (hf:f<p.funs.length) (hk:k<p.len f) (hkn:(s.get (.at_ f k)).1=true) (w:World) (h:RMem p L w s) :
  Calls Tryz.prog 73 #[.pointer (some ⟨L.A,0,none⟩),.int .i64 f,.int .i64 k] w (RLeft p L w (s.rinstr p f k) (.tuple #[])):=by
 have hW:=wf_of hv;have hl:=hW.len f hf;obtain ⟨b,off,b2,off2,hA,hb,hb2,-,d5,q0,q1,q2,q3,q4⟩:=h.prog.at_ hf hk;have c0:=h.c0;have c3:=h.c3;have ob:=h.outB f hf
 have cs:w.cell? ⟨L.bb f,k,none⟩=some (.int .i64 ((s.get (.at_ f k)).2.toNat:Int)):=by
  have:=(h.slot (.at_ f k) ⟨hf,hk⟩).1;have hrv:rv (s.get (.at_ f k))=((s.get (.at_ f k)).2.toNat:Int):=by unfold rv; rw [hkn]; rfl
  rw [hrv] at this;exact this
 have hval:p.val=.agg #[.slice (some ⟨b,off,none⟩) p.funs.length p.funC,.slice p.obA p.obs.length p.obC,.slice p.vrA p.vrs.length p.vrC]:=by rw [Prg.val,hA]
 have HAD:=hid (fun (W:World) (s:S) (hm:RMem p L W s) (x:Slot) (hx:x.In p) (l:BS)=>radd_any p L W s hm x hx l);have HNX:=hid (fun (W:World) (hl:Lies W W.heap.size p)=>rnext_any p hv f k hf hk W hl);have HIS:=hid (fun (W:World) (hl:Lies W W.heap.size p)=>rinside_any p hv f k hf hk W hl);have HWI:=hid (fun (W:World) (s:S) (hm:RMem p L W s) (g:Nat) (hg:g<p.funs.length)=>rwithin_any p hW L s g hg W hm);have HAC:=hid (fun (W:World) (hl:Lies W W.heap.size p)=>racq_any p (p.ins f k) (fun e=>((hW.ins f k hf hk).wait e).1) W hl);have HRL:=hid (fun (W:World)=>rrel_any (p.ins f k) W)
 have HD5:Hid (∀ (W:World) (s:S),RMem p L W s→W.cell? ⟨b,off+f * 6+5,none⟩=some (.slice (some ⟨b2,off2,none⟩) (p.len f) (p.fn f).codeC)):=hid (fun W s hm=>by
  obtain ⟨c,offc,hA',-,-,e5⟩:=hm.prog.codeAt hf;obtain ⟨c',offc',hA2,-,-,e7⟩:=h.prog.codeAt hf;rw [hA] at hA' hA2;injection hA' with hA';injection hA' with h1 h2;injection hA2 with hA2;injection hA2 with h3 h4;subst h1;subst h2;subst h3;subst h4;rw [d5] at e7;rw [e5,← Option.some.inj e7])
 have HI0:Hid (∀ (W:World) (s:S),RMem p L W s→∀ j,j<p.len f→W.cell? ⟨b2,off2+j * 5,none⟩=some (.int .i64 (p.ins f j).op)∧W.cell? ⟨b2,off2+j * 5+1,none⟩=some (.int .i64 (p.ins f j).a)∧W.cell? ⟨b2,off2+j * 5+2,none⟩=some (.int .i64 (p.ins f j).b)∧W.cell? ⟨b2,off2+j * 5+3,none⟩=some (.int .i64 (p.ins f j).c) ∧
   W.cell? ⟨b2,off2+j * 5+4,none⟩=some (.slice (p.ins f j).argA (p.ins f j).args.length (p.ins f j).argC)):=hid (fun W s hm j hj=>by
  obtain ⟨c,offc,c2,offc2,hA',-,-,-,e5,e0,e1,e2,e3,e4⟩:=hm.prog.at_ hf hj;rw [hA] at hA';injection hA' with hA';injection hA' with h1 h2;subst h1;subst h2;have e6:=HD5.out W s hm;rw [e6] at e5;injection e5 with e5;injection e5 with e5 _ _;injection e5 with e5;injection e5 with h3 h4;subst h3;subst h4;exact ⟨e0,e1,e2,e3,e4⟩)
 have HINJ:=hid (fun j hj=>hW.ins f j hf hj);rw [hA] at c0;rw [hval] at HNX HIS HAC;have HMM:=hid h;have HA:=hid hA;have HIN:=hid (hW.ins f k hf hk);have f0:=zi f;have f1:(f:Int)<(p.funs.length:Int):=by omega
 have k0:=zi k;have k1:(k:Int)<(p.len f:Int):=by omega
 have HRI:Hid (s.rinstr p f k=(s.rfirst p f k).rgoOn p f k (s.behind p f k)):=hid rfl
 have HBE:Hid (s.behind p f k=if (p.ins f k).op=15 then ((s.get (.fin (p.ins f k).b.toNat)).2,(s.get (.fin (p.ins f k).b.toNat)).1)
  else if (p.ins f k).op=36 then ((s.get (.at_ f k)).2 ||| cleanM p,true)
  else if (p.ins f k).op=52∨(p.ins f k).op=54∨(p.ins f k).op=56 then ((s.get (.at_ f k)).2 &&& ~~~ bit (p.ins f k).a.toNat,true)
  else ((s.get (.at_ f k)).2 ||| acqBit p (p.ins f k),true)):=hid rfl
 have HFS:Hid (s.rfirst p f k=if (p.ins f k).op=34 then s.grow (.ent (p.ins f k).b.toNat) 0 else if (p.ins f k).op=17 then s.grow (.ent (p.ins f k).b.toNat) (allM p) else if (p.ins f k).op=15 then s.grow (.ent (p.ins f k).b.toNat) (s.get (.at_ f k)).2
 else if (p.ins f k).op=16 then s.grow (.fin f) (s.get (.at_ f k)).2 else if (p.ins f k).op=35 then s.ropen p f k else s):=hid rfl
 have HEN:Hid (Ends p f k↔k+1=p.len f∧(p.ins f k).op≠13∧(p.ins f k).op≠16∧(p.ins f k).op≠21):=hid Iff.rfl;have HOP:Hid ((p.ins f k).op=35→s.ropen p f k=(insideR p f k).foldl (S.openStep p f (p.ins f k).c.toNat) (s.grow (.at_ f (p.ins f k).c.toNat) (cleanM p))):=hid (fun _=>rfl);have HAI:=hid (fun l (e:acq p (p.ins f k)=some l)=>acq_idx (hW.ins f k hf hk) e);have hobs:=hW.obs;generalize hi:p.ins f k=i at q0 q1 q2 q3 q4 HAC HRL HIN HBE HFS HEN HOP HAI;have HKN:=hid hkn;clear hi hval hA h hv hW hkn;obtain ⟨op,a,bb,cc,args,argA,argC⟩:=i;unfold Ins.val Ins.cells at HAC HRL;dsimp only at q0 q1 q2 q3 q4 HAC HRL HBE HFS HEN HOP;go_enter Tryz.func73,Tryz.ntmps73;go_upto_region 1 with fail;have hb5:=below_alloc w (.cells #[.int .i64 op,.int .i64 a,.int .i64 bb,.int .i64 cc,.slice argA args.length argC] 63)
 have hx:=bx_new w #[.int .i64 op,.int .i64 a,.int .i64 bb,.int .i64 cc,.slice argA args.length argC] 63;have hm1:=HMM.out.below hb5;have ht1:Turn L.lo L.hi w (w.alloc (.cells #[.int .i64 op,.int .i64 a,.int .i64 bb,.int .i64 cc,.slice argA args.length argC] 63)):=Turn.of_below hb5;have cs:=(hb5.cell (block_lt_of_cell cs)).trans cs;have c3:=(hb5.cell (block_lt_of_cell c3)).trans c3;have ob:=(hb5.cell (block_lt_of_cell ob)).trans ob;have hzW:w.heap.size<(w.alloc (.cells #[.int .i64 op,.int .i64 a,.int .i64 bb,.int .i64 cc,.slice argA args.length argC] 63)).heap.size:=by simp
 clear c0 d5 q0 q1 q2 q3 q4 hb5;generalize w.alloc _=W1 at hx hm1 ht1 cs c3 ob hzW ⊢;go_upto_region 2 with fail;rw [racq_two] at HAC;generalize hlq:lqI p ⟨op,a,bb,cc,args,argA,argC⟩=lq at HAC;generalize tqB p ⟨op,a,bb,cc,args,argA,argC⟩=tq at HAC;obtain ⟨z0,z1,z2,z3,z4⟩:=bx5 hx;have hG:=HMM.out.hi;have c0:=hm1.c0;have c1:=hm1.c1;have c2:=hm1.c2;rw [HA.out] at c0;clear cs c3 ob;have hL1:Lies W1.drew W1.drew.heap.size p:=(hm1.prog.more (Nat.le_trans hG.1 hm1.hi.2)).next (below_drews _ W1 1)
 refine wp_region_held_drew (S:=fun W=>W.cell? ⟨L.A,0,none⟩=some (.slice (some ⟨b,off,none⟩) p.funs.length p.funC)∧W.cell? ⟨L.A,1,none⟩=some (.slice p.obA p.obs.length p.obC)∧W.cell? ⟨L.A,2,none⟩=some (.slice p.vrA p.vrs.length p.vrC)∧W.cell? ⟨w.heap.size,0,none⟩=some (.int .i64 op)∧W.cell? ⟨w.heap.size,1,none⟩=some (.int .i64 a)∧W.cell? ⟨w.heap.size,2,none⟩=some (.int .i64 bb)∧W.cell? ⟨w.heap.size,3,none⟩=some (.int .i64 cc)∧W.cell? ⟨w.heap.size,4,none⟩=some (.slice argA args.length argC)) (by kernel_rfl) ⟨c0,c1,c2,z0,z1,z2,z3,z4⟩ (fun hHeld=>?_);have hm2:RMem p L W1.drew s:=hm1.drewN 1;have ht2:Turn L.lo L.hi w W1.drew:=ht1.drewN 1;have hzd:w.heap.size<W1.drew.heap.size:=hzW;clear c0 c1 c2 z0 z1 z2 z3 z4 hm1 ht1 hx hzW
 generalize W1.drew=Wd at hm2 ht2 hzd hHeld hL1 ⊢;have hSd:=hid hHeld;have hLd:=hL1
 have HKB:Hid (∀ W2,Below Wd.heap.size Wd W2→Hid (Wd.cell? ⟨L.A,0,none⟩=some (.slice (some ⟨b,off,none⟩) p.funs.length p.funC)∧Wd.cell? ⟨L.A,1,none⟩=some (.slice p.obA p.obs.length p.obC)∧Wd.cell? ⟨L.A,2,none⟩=some (.slice p.vrA p.vrs.length p.vrC)∧Wd.cell? ⟨w.heap.size,0,none⟩=some (.int .i64 op)∧Wd.cell? ⟨w.heap.size,1,none⟩=some (.int .i64 a)∧Wd.cell? ⟨w.heap.size,2,none⟩=some (.int .i64 bb)∧Wd.cell? ⟨w.heap.size,3,none⟩=some (.int .i64 cc)∧Wd.cell? ⟨w.heap.size,4,none⟩=some (.slice argA args.length argC))→W2.cell? ⟨L.A,0,none⟩=some (.slice (some ⟨b,off,none⟩) p.funs.length p.funC)∧W2.cell? ⟨L.A,1,none⟩=some (.slice p.obA p.obs.length p.obC)∧W2.cell? ⟨L.A,2,none⟩=some (.slice p.vrA p.vrs.length p.vrC)∧W2.cell? ⟨w.heap.size,0,none⟩=some (.int .i64 op)∧W2.cell? ⟨w.heap.size,1,none⟩=some (.int .i64 a)∧W2.cell? ⟨w.heap.size,2,none⟩=some (.int .i64 bb)∧W2.cell? ⟨w.heap.size,3,none⟩=some (.int .i64 cc)∧W2.cell? ⟨w.heap.size,4,none⟩=some (.slice argA args.length argC)):=hid (fun W2 hb h=>by
  obtain ⟨h0,h1,h2,h3,h4,h5,h6,h7⟩:=h.out;exact ⟨(hb.cell (block_lt_of_cell h0)).trans h0,(hb.cell (block_lt_of_cell h1)).trans h1,(hb.cell (block_lt_of_cell h2)).trans h2,(hb.cell (block_lt_of_cell h3)).trans h3,(hb.cell (block_lt_of_cell h4)).trans h4,(hb.cell (block_lt_of_cell h5)).trans h5,(hb.cell (block_lt_of_cell h6)).trans h6,(hb.cell (block_lt_of_cell h7)).trans h7⟩)
 refine tkH 0 rfl ?_;try simp only [frS,Act.put]
 refine tkH 1 rfl ?_;try simp only [frS,Act.put]
 refine tkH 2 rfl ?_;try simp only [frS,Act.put]
 refine tkH 3 rfl ?_;try simp only [frS,Act.put]
 refine tkH 4 rfl ?_;try simp only [frS,Act.put]
 refine rdH 5 rfl fun K hK=>?_
 go_simp;refine (HAC.out _ hLd).mono ?_;rintro e W2 ⟨rfl,hb2⟩
 try dsimp only
 refine hK.out _ _ ?_ (fun hHeld=>?_)
 ·exact HKB.out _ hb2 hSd
 clear hK K;try simp only [frS,Act.put]
 refine tkH 6 rfl ?_;try simp only [frS,Act.put]
 refine tkH 7 rfl ?_;try simp only [frS,Act.put]
 refine tkH 8 rfl ?_;try simp only [frS,Act.put]
 refine tkH 9 rfl ?_;try simp only [frS,Act.put]
 refine tkH 10 rfl ?_;try simp only [frS,Act.put]
 refine wpAnyH_done (by kernel_rfl) ?_ _
 try dsimp only [Exit.then]
 have hl2:Lies W2 W2.heap.size p:=hL1.next hb2;have hm3:=hm2.below hb2;have ht3:=ht2.trans (Turn.of_below hb2);have hz3:w.heap.size<W2.heap.size:=Nat.lt_of_lt_of_le hzd hb2.size
 have hx:Bx W2 w.heap.size [.int .i64 op,.int .i64 a,.int .i64 bb,.int .i64 cc,.slice argA args.length argC]:=fun j v hv=>by
  obtain ⟨-,-,-,h3,h4,h5,h6,h7⟩:=hHeld
  match j,hv with
  | 0,hv=>injection hv with hv; subst hv; exact h3
  | 1,hv=>injection hv with hv; subst hv; exact h4
  | 2,hv=>injection hv with hv; subst hv; exact h5
  | 3,hv=>injection hv with hv; subst hv; exact h6
  | 4,hv=>injection hv with hv; subst hv; exact h7
 clear hHeld HKB hSd hLd hL1 hm2 ht2 hzd hb2 HAC hl2;go_upto_region 3 with fail;rename_i K5 hK5 K4 hK4
 have key5:∀ (u49 u50 u51 u52 u53 u54:Value) (b0:BS),b0=(s.get (.at_ f k)).2 ||| acqBit p ⟨op,a,bb,cc,args,argA,argC⟩→K5 ⟨#[.pointer (some ⟨L.A,0,none⟩),.int .i64 f,.int .i64 k,undef,undef,undef,.pointer (some ⟨w.heap.size,0,none⟩),.int .i64 (b0.toNat:Int),.int .i64 lq,.bool tq,undef,undef,undef,undef,undef,undef,undef,undef,.pointer (some ⟨L.A,0,none⟩),.pointer (some ⟨L.A,0,none⟩),.pointer (some ⟨L.A,0,none⟩),.pointer (some ⟨L.A,0,none⟩),.slice (some ⟨b,off,none⟩) p.funs.length p.funC,.int .i64 f,.pointer (some ⟨b,off+f * 6,none⟩),.pointer (some ⟨b,off+f * 6+5,none⟩),.slice (some ⟨b2,off2,none⟩) (p.len f) (p.fn f).codeC,.int .i64 k,.pointer (some ⟨b2,off2+k * 5,none⟩),.agg #[.int .i64 op,.int .i64 a,.int .i64 bb,.int .i64 cc,.slice argA args.length argC],.pointer (some ⟨L.A,0,none⟩),.pointer (some ⟨L.A,0,none⟩),.pointer (some ⟨L.A,3,none⟩),.slice (some ⟨L.B,0,none⟩) p.funs.length L.cB,.int .i64 f,.pointer (some ⟨L.B,f,none⟩),.slice (some ⟨L.bb f,0,none⟩) (p.len f) (L.cb f),.int .i64 k,.pointer (some ⟨L.bb f,k,none⟩),.int .i64 ((s.get (.at_ f k)).2.toNat:Int),.tuple #[.int .i64 lq,.bool tq],.pointer (some ⟨L.A,0,none⟩),.pointer (some ⟨L.A,0,none⟩),.pointer (some ⟨L.A,0,none⟩),.agg #[.slice (some ⟨b,off,none⟩) p.funs.length p.funC,.slice p.obA p.obs.length p.obC,.slice p.vrA p.vrs.length p.vrC],.agg #[.int .i64 op,.int .i64 a,.int .i64 bb,.int .i64 cc,.slice argA args.length argC],.tuple #[.int .i64 lq,.bool tq],.int .i64 lq,.bool tq,u49,u50,u51,u52,u53,u54,undef,undef,undef,undef,undef,undef,undef,undef,undef,undef,undef,undef,undef,undef,undef,undef,undef,undef,undef,undef,undef,undef,undef,undef,undef,undef,undef,undef,undef,undef,undef,undef,undef,undef,undef,undef,undef,undef,undef,undef,undef,undef,undef,undef,undef,undef,undef,undef,undef,undef,undef,undef,undef,undef,undef,undef,undef,undef,undef,undef,undef,undef,undef,undef,undef,undef,undef,undef,undef,undef,undef,undef,undef,undef,undef,undef,undef,undef,undef,undef,undef,undef,undef,undef,undef,undef,undef,undef,undef,undef,undef,undef,undef,undef,undef,undef,undef,undef,undef,undef,undef,undef,undef,undef,undef,undef,undef,undef,undef,undef,undef,undef,undef,undef,undef,undef,undef,undef,undef,undef,undef,undef,undef,undef,undef,undef,undef,undef,undef,undef,undef,undef,undef,undef,undef,undef,undef,undef,undef,undef,undef,undef,undef,undef,undef,undef,undef,undef,undef,undef,undef,undef,undef,undef,undef,undef,undef,undef,undef,undef,undef,undef,undef,undef,undef,undef,undef,undef,undef,undef,undef,undef,undef,undef,undef,undef,undef,undef,undef,undef,undef,undef,undef,undef,undef,undef,undef,undef,undef,undef,undef,undef,undef,undef,undef,undef,undef,undef,undef,undef,undef,undef,undef,undef,undef,undef,undef,undef,undef,undef,undef,undef,undef,undef,undef,undef,undef,undef,undef,undef,undef,undef,undef,undef,undef,undef,undef,undef,undef,undef,undef,undef,undef,undef,undef,undef,undef,undef,undef,undef,undef,undef,undef,undef,undef,undef,undef,undef,undef,undef,undef,undef,undef,undef,undef,undef,undef],[]⟩ W2:=by
  intro u49 u50 u51 u52 u53 u54 b0 hE0;have HE0:=hid hE0;clear hE0;refine hK5 _ _ ?_;clear hK5 hK4;obtain ⟨z0,z1,z2,z3,z4⟩:=bx5 hx;go_wp2_with fail;refine (HRL.out W2).mono ?_;rintro e W3 ⟨rfl,hb3⟩;have hm4:=hm3.below hb3;have ht4:=ht3.trans (Turn.of_below hb3);have hx4:Bx W3 w.heap.size [.int .i64 op,.int .i64 a,.int .i64 bb,.int .i64 cc,.slice argA args.length argC]:=hx.below hb3 hz3;have hz4:w.heap.size<W3.heap.size:=Nat.lt_of_lt_of_le hz3 hb3.size;clear z0 z1 z2 z3 z4 hm3 ht3 hx hz3 hb3 HRL;generalize hrl:relI ⟨op,a,bb,cc,args,argA,argC⟩=rl;go_upto_region 6 with fail;rename_i K8 hK8 K7 hK7
  have key8:∀ (u57 u58 u59 u60 u61 u62:Value) (b1:BS),b1=(if op=52∨op=54∨op=56 then b0 &&& ~~~ bit a.toNat else b0)→K8 ⟨#[.pointer (some ⟨L.A,0,none⟩),.int .i64 f,.int .i64 k,undef,undef,undef,.pointer (some ⟨w.heap.size,0,none⟩),.int .i64 (b1.toNat:Int),.int .i64 lq,.bool tq,.int .i64 rl,undef,undef,undef,undef,undef,undef,undef,.pointer (some ⟨L.A,0,none⟩),.pointer (some ⟨L.A,0,none⟩),.pointer (some ⟨L.A,0,none⟩),.pointer (some ⟨L.A,0,none⟩),.slice (some ⟨b,off,none⟩) p.funs.length p.funC,.int .i64 f,.pointer (some ⟨b,off+f * 6,none⟩),.pointer (some ⟨b,off+f * 6+5,none⟩),.slice (some ⟨b2,off2,none⟩) (p.len f) (p.fn f).codeC,.int .i64 k,.pointer (some ⟨b2,off2+k * 5,none⟩),.agg #[.int .i64 op,.int .i64 a,.int .i64 bb,.int .i64 cc,.slice argA args.length argC],.pointer (some ⟨L.A,0,none⟩),.pointer (some ⟨L.A,0,none⟩),.pointer (some ⟨L.A,3,none⟩),.slice (some ⟨L.B,0,none⟩) p.funs.length L.cB,.int .i64 f,.pointer (some ⟨L.B,f,none⟩),.slice (some ⟨L.bb f,0,none⟩) (p.len f) (L.cb f),.int .i64 k,.pointer (some ⟨L.bb f,k,none⟩),.int .i64 ((s.get (.at_ f k)).2.toNat:Int),.tuple #[.int .i64 lq,.bool tq],.pointer (some ⟨L.A,0,none⟩),.pointer (some ⟨L.A,0,none⟩),.pointer (some ⟨L.A,0,none⟩),.agg #[.slice (some ⟨b,off,none⟩) p.funs.length p.funC,.slice p.obA p.obs.length p.obC,.slice p.vrA p.vrs.length p.vrC],.agg #[.int .i64 op,.int .i64 a,.int .i64 bb,.int .i64 cc,.slice argA args.length argC],.tuple #[.int .i64 lq,.bool tq],.int .i64 lq,.bool tq,u49,u50,u51,u52,u53,u54,.agg #[.int .i64 op,.int .i64 a,.int .i64 bb,.int .i64 cc,.slice argA args.length argC],.int .i64 rl,u57,u58,u59,u60,u61,u62,undef,undef,undef,undef,undef,undef,undef,undef,undef,undef,undef,undef,undef,undef,undef,undef,undef,undef,undef,undef,undef,undef,undef,undef,undef,undef,undef,undef,undef,undef,undef,undef,undef,undef,undef,undef,undef,undef,undef,undef,undef,undef,undef,undef,undef,undef,undef,undef,undef,undef,undef,undef,undef,undef,undef,undef,undef,undef,undef,undef,undef,undef,undef,undef,undef,undef,undef,undef,undef,undef,undef,undef,undef,undef,undef,undef,undef,undef,undef,undef,undef,undef,undef,undef,undef,undef,undef,undef,undef,undef,undef,undef,undef,undef,undef,undef,undef,undef,undef,undef,undef,undef,undef,undef,undef,undef,undef,undef,undef,undef,undef,undef,undef,undef,undef,undef,undef,undef,undef,undef,undef,undef,undef,undef,undef,undef,undef,undef,undef,undef,undef,undef,undef,undef,undef,undef,undef,undef,undef,undef,undef,undef,undef,undef,undef,undef,undef,undef,undef,undef,undef,undef,undef,undef,undef,undef,undef,undef,undef,undef,undef,undef,undef,undef,undef,undef,undef,undef,undef,undef,undef,undef,undef,undef,undef,undef,undef,undef,undef,undef,undef,undef,undef,undef,undef,undef,undef,undef,undef,undef,undef,undef,undef,undef,undef,undef,undef,undef,undef,undef,undef,undef,undef,undef,undef,undef,undef,undef,undef,undef,undef,undef,undef,undef,undef,undef,undef,undef,undef,undef,undef,undef,undef,undef,undef,undef,undef,undef,undef,undef,undef,undef,undef,undef,undef,undef,undef,undef,undef,undef,undef,undef,undef,undef,undef,undef,undef,undef,undef],[]⟩ W3:=by
   intro u57 u58 u59 u60 u61 u62 b1 hE1;have HE1:=hid hE1;clear hE1;refine hK8 _ _ ?_;clear hK8 hK7;obtain ⟨z0,z1,z2,z3,z4⟩:=bx5 hx4;go_upto_region 10 with fail;clear z0 z1 z2 z3 z4;rename_i K33 hK33 K10 hK10
   have key33:∀ (u12 u13 u14 u15 u65 u66 u67 u68 u69 u70 u71 u72 u73 u74 u75 u76 u77 u78 u79 u80 u81 u82 u83 u84 u85 u86 u87 u88 u89 u90 u91 u92 u93 u94 u95 u96 u97 u98 u99 u100 u101 u102 u103 u104 u105 u106 u107 u108 u109 u110 u111 u112 u113 u114 u115 u116 u117 u118 u119 u120 u121 u122 u123 u124 u125 u126 u127 u128 u129 u130 u131 u132 u133 u134 u135 u136 u137 u138 u139 u140 u141 u142 u143 u144 u145 u146 u147 u148 u149 u150 u151 u152 u153 u154 u155 u156 u157 u158 u159 u160 u161 u162 u163 u164 u165 u166 u167 u168 u169 u170 u171 u172 u173 u174 u175 u176 u177 u178 u179 u180 u181 u182 u183 u184 u185 u186 u187 u188 u189 u190 u191 u192 u193 u194 u195 u196 u197 u198 u199 u200 u201 u202 u203 u204 u205 u206 u207 u208 u209 u210 u211 u212 u213 u214 u215 u216 u217 u218 u219 u220 u221 u222 u223 u224 u225 u226 u227 u228 u229 u230 u231 u232 u233 u234 u235 u236 u237 u238 u239 u240 u241 u242 u243 u244 u245 u246:Value) (v7:Int) (b2':BS) (g:Bool) (s1:S) (W4:World),(g=true→v7=(b2'.toNat:Int))→RMem p L W4 s1→Turn L.lo L.hi w W4→Bx W4 w.heap.size [.int .i64 op,.int .i64 a,.int .i64 bb,.int .i64 cc,.slice argA args.length argC]→w.heap.size<W4.heap.size→s.rinstr p f k=s1.rgoOn p f k (b2',g)→K33 ⟨#[.pointer (some ⟨L.A,0,none⟩),.int .i64 f,.int .i64 k,undef,undef,undef,.pointer (some ⟨w.heap.size,0,none⟩),.int .i64 v7,.int .i64 lq,.bool tq,.int .i64 rl,.bool g,u12,u13,u14,u15,undef,undef,.pointer (some ⟨L.A,0,none⟩),.pointer (some ⟨L.A,0,none⟩),.pointer (some ⟨L.A,0,none⟩),.pointer (some ⟨L.A,0,none⟩),.slice (some ⟨b,off,none⟩) p.funs.length p.funC,.int .i64 f,.pointer (some ⟨b,off+f * 6,none⟩),.pointer (some ⟨b,off+f * 6+5,none⟩),.slice (some ⟨b2,off2,none⟩) (p.len f) (p.fn f).codeC,.int .i64 k,.pointer (some ⟨b2,off2+k * 5,none⟩),.agg #[.int .i64 op,.int .i64 a,.int .i64 bb,.int .i64 cc,.slice argA args.length argC],.pointer (some ⟨L.A,0,none⟩),.pointer (some ⟨L.A,0,none⟩),.pointer (some ⟨L.A,3,none⟩),.slice (some ⟨L.B,0,none⟩) p.funs.length L.cB,.int .i64 f,.pointer (some ⟨L.B,f,none⟩),.slice (some ⟨L.bb f,0,none⟩) (p.len f) (L.cb f),.int .i64 k,.pointer (some ⟨L.bb f,k,none⟩),.int .i64 ((s.get (.at_ f k)).2.toNat:Int),.tuple #[.int .i64 lq,.bool tq],.pointer (some ⟨L.A,0,none⟩),.pointer (some ⟨L.A,0,none⟩),.pointer (some ⟨L.A,0,none⟩),.agg #[.slice (some ⟨b,off,none⟩) p.funs.length p.funC,.slice p.obA p.obs.length p.obC,.slice p.vrA p.vrs.length p.vrC],.agg #[.int .i64 op,.int .i64 a,.int .i64 bb,.int .i64 cc,.slice argA args.length argC],.tuple #[.int .i64 lq,.bool tq],.int .i64 lq,.bool tq,u49,u50,u51,u52,u53,u54,.agg #[.int .i64 op,.int .i64 a,.int .i64 bb,.int .i64 cc,.slice argA args.length argC],.int .i64 rl,u57,u58,u59,u60,u61,u62,.pointer (some ⟨w.heap.size,0,none⟩),.int .i64 op,u65,u66,u67,u68,u69,u70,u71,u72,u73,u74,u75,u76,u77,u78,u79,u80,u81,u82,u83,u84,u85,u86,u87,u88,u89,u90,u91,u92,u93,u94,u95,u96,u97,u98,u99,u100,u101,u102,u103,u104,u105,u106,u107,u108,u109,u110,u111,u112,u113,u114,u115,u116,u117,u118,u119,u120,u121,u122,u123,u124,u125,u126,u127,u128,u129,u130,u131,u132,u133,u134,u135,u136,u137,u138,u139,u140,u141,u142,u143,u144,u145,u146,u147,u148,u149,u150,u151,u152,u153,u154,u155,u156,u157,u158,u159,u160,u161,u162,u163,u164,u165,u166,u167,u168,u169,u170,u171,u172,u173,u174,u175,u176,u177,u178,u179,u180,u181,u182,u183,u184,u185,u186,u187,u188,u189,u190,u191,u192,u193,u194,u195,u196,u197,u198,u199,u200,u201,u202,u203,u204,u205,u206,u207,u208,u209,u210,u211,u212,u213,u214,u215,u216,u217,u218,u219,u220,u221,u222,u223,u224,u225,u226,u227,u228,u229,u230,u231,u232,u233,u234,u235,u236,u237,u238,u239,u240,u241,u242,u243,u244,u245,u246,undef,undef,undef,undef,undef,undef,undef,undef,undef,undef,undef,undef,undef,undef,undef,undef,undef,undef,undef,undef,undef,undef,undef,undef,undef,undef,undef,undef,undef,undef,undef,undef,undef,undef,undef,undef,undef,undef,undef,undef,undef,undef,undef,undef,undef,undef,undef,undef,undef,undef,undef,undef,undef,undef,undef,undef,undef,undef,undef,undef,undef,undef,undef,undef,undef],[]⟩ W4:=by
    intro u12 u13 u14 u15 u65 u66 u67 u68 u69 u70 u71 u72 u73 u74 u75 u76 u77 u78 u79 u80 u81 u82 u83 u84 u85 u86 u87 u88 u89 u90 u91 u92 u93 u94 u95 u96 u97 u98 u99 u100 u101 u102 u103 u104 u105 u106 u107 u108 u109 u110 u111 u112 u113 u114 u115 u116 u117 u118 u119 u120 u121 u122 u123 u124 u125 u126 u127 u128 u129 u130 u131 u132 u133 u134 u135 u136 u137 u138 u139 u140 u141 u142 u143 u144 u145 u146 u147 u148 u149 u150 u151 u152 u153 u154 u155 u156 u157 u158 u159 u160 u161 u162 u163 u164 u165 u166 u167 u168 u169 u170 u171 u172 u173 u174 u175 u176 u177 u178 u179 u180 u181 u182 u183 u184 u185 u186 u187 u188 u189 u190 u191 u192 u193 u194 u195 u196 u197 u198 u199 u200 u201 u202 u203 u204 u205 u206 u207 u208 u209 u210 u211 u212 u213 u214 u215 u216 u217 u218 u219 u220 u221 u222 u223 u224 u225 u226 u227 u228 u229 u230 u231 u232 u233 u234 u235 u236 u237 u238 u239 u240 u241 u242 u243 u244 u245 u246 v7 b2' g s1 W4 hv7 hm ht hx hz hE
    have HE:=hid hE;clear hE;refine hK33 _ _ ?_;clear hK33 hK10
    cases g with
    | false=>
     clear hv7;have HE2:=hid (show s.rinstr p f k=s1 from by rw [HE.out]; rfl);go_wp2_with fail;refine bodyPost_ret (results_none rfl _ _ _) rfl ?_;exact ⟨rfl,by rw [HE2.out]; exact hm,ht⟩
    | true=>
     obtain rfl:=hv7 rfl;clear hv7;have HE2:=hid (show s.rinstr p f k=((nextM p f k).foldl (fun z j=>z.grow (.at_ f j) b2') s1).rlast p f k b2' from by rw [HE.out]; rfl);clear HE;have c0:=hm.c0;have c1:=hm.c1;have c2:=hm.c2;rw [HA.out] at c0;have hhi:=hm.hi;go_wp2_with fail;refine (HNX.out W4 (hm.prog.more (Nat.le_trans hhi.1 hhi.2))).mono ?_;rintro e W5 ⟨A,c9,rfl,hrd,hfr,hb5⟩;have hm5:=hm.below hb5;have ht5:=ht.trans (Turn.of_below hb5);have hx5:Bx W5 w.heap.size [.int .i64 op,.int .i64 a,.int .i64 bb,.int .i64 cc,.slice argA args.length argC]:=hx.below hb5 hz;have hmem:∀ x∈nextM p f k,x<p.len f:=fun x hx=>nextM_lt hx
     have hn2:=next_le p f k;generalize nextM p f k=nx at hrd hmem HE2 hn2 ⊢;clear c0 c1 c2 hm ht hx hz;have hw39:IntKind.i64.wrap ((p.len f:Int) - 1)=(p.len f:Int) - 1:=by rw [IntKind.wrap_i64]; omega
     by_cases hn0:nx.length=0
     ·have hnx:nx=[]:=List.eq_nil_of_length_eq_zero hn0
      subst hnx;go_upto_region 36 with fail;go_loopw [17] (fun v wr=>v=.int .i64 0∧wr=W5) (fun _ _=>0)
      case atStart=>exact ⟨rfl,rfl⟩
      case round=>
       obtain ⟨rfl,rfl⟩:=hrel;have HE3:Hid (s.rinstr p f k=s1.rlast p f k b2'):=hid HE2.out;go_upto_region 39 with fail;obtain ⟨z0,z1,z2,z3,z4⟩:=bx5 hx5;have c3:=hm5.c3;have ob:=hm5.outB f hf;by_cases hEn:k+1=p.len f∧op≠13∧op≠16∧op≠21
       ·have HL:=hid (show s.rinstr p f k=(s1).grow (.fin f) b2' from by rw [HE3.out,S.rlast,if_pos (HEN.out.2 hEn)])
        have g1:((k:Int) == (p.len f:Int) - 1)=true:=by simp; omega
        have g13:(op != 13)=true:=by simpa using hEn.2.1
        have g16:(op != 16)=true:=by simpa using hEn.2.2.1
        have g21:(op != 21)=true:=by simpa using hEn.2.2.2
        have c5:=hm5.c5;clear hEn;go_wp2_with fail;refine (HAD.out wr _ hm5 (.fin f) hf b2').mono ?_;rintro e W6 ⟨rfl,hm66,ht66⟩;clear c3 ob c5 z0 z1 z2 z3 z4;go_wp2_with fail;go_end0;exact ⟨rfl,by rw [HL.out]; exact hm66,(ht5).trans ht66⟩
       ·have HL:=hid (show s.rinstr p f k=s1 from by rw [HE3.out,S.rlast,if_neg (fun e=>hEn (HEN.out.1 e))])
        by_cases he1:k+1=p.len f
        ·have g1:((k:Int) == (p.len f:Int) - 1)=true:=by simp; omega
         by_cases h13:op=13
         ·have g13:(op != 13)=false:=by simp [h13]
          clear hEn he1 h13;go_wp2_with fail;go_end0;exact ⟨rfl,by rw [HL.out]; exact hm5,ht5⟩
         ·have g13:(op != 13)=true:=by simp [h13]
          by_cases h16:op=16
          ·have g16:(op != 16)=false:=by simp [h16]
           clear hEn he1 h13 h16;go_wp2_with fail;go_end0;exact ⟨rfl,by rw [HL.out]; exact hm5,ht5⟩
          ·have g16:(op != 16)=true:=by simp [h16]
           have h21:op=21:=Classical.byContradiction fun e=>hEn ⟨he1,h13,h16,e⟩
           have g21:(op != 21)=false:=by simp [h21]
           clear hEn he1 h13 h16 h21;go_wp2_with fail;go_end0;exact ⟨rfl,by rw [HL.out]; exact hm5,ht5⟩
        ·have g1:((k:Int) == (p.len f:Int) - 1)=false:=by simp; omega
         clear hEn he1;go_wp2_with fail;go_end0;exact ⟨rfl,by rw [HL.out]; exact hm5,ht5⟩
     ·obtain ⟨b9,o9,rfl,hb9',hc9⟩:=hrd.addr (by omega)
      have hge:L.hi≤b9:=Nat.le_trans hhi.2 (hfr b9 o9 rfl);have hcn:∀ i (h:i<nx.length),W5.cell? ⟨b9,o9+i,none⟩=some (.int .i64 (nx[i]:Int)):=fun i h=>hc9 i _ (by simp [i64s,nats,h])
      have HCN:=hid hcn;have HX5:=hid hx5;have HT5:=hid ht5;clear hcn hc9 hfr hrd hn0 hx5 ht5;go_upto_region 36 with fail;go_loopw [17] (fun v wr=>∃ q:Nat,v=.int .i64 q∧q≤nx.length∧RMem p L wr ((nx.take q).foldl (fun z j=>z.grow (.at_ f j) b2') s1)∧Turn L.lo L.hi W5 wr) (fun v _=>nx.length - (intOf v).toNat)
      case atStart=>exact ⟨0,rfl,by omega,hm5,Turn.refl _ _ _⟩
      case round=>
       clear hm5;obtain ⟨q,rfl,hq,hm,ht⟩:=hrel;have hq0:=zi q;have hwq:=Wi q (by omega);by_cases hlq:q<nx.length
       ·have hd1:=Dt (show (q:Int)<nx.length by omega)
        have hd2:=Dt hlq;have hql:(q:Int)<(nx.length:Int):=by omega
        have cq:=ht.cell (HCN.out q hlq) (.inr hge);have HFO:=hid (show (nx.take (q+1)).foldl (fun z j=>z.grow (.at_ f j) b2') s1=((nx.take q).foldl (fun z j=>z.grow (.at_ f j) b2') s1).grow (.at_ f nx[q]) b2' from by rw [List.take_succ_eq_append_getElem hlq,List.foldl_append]; rfl);have hxl:=hmem nx[q] (List.getElem_mem _);generalize nx[q]=x at cq HFO hxl;have hx0:=zi x;have hxl2:(x:Int)<(p.len f:Int):=by omega
        have c3:=hm.c3;have ob:=hm.outB f hf;generalize hst:(nx.take q).foldl (fun z j=>z.grow (.at_ f j) b2') s1=sq at hm HFO;clear hst;go_upto_region 38 with fail;go_still_tail 14,(by kernel_rfl)
        change wpList _ _ _ _ _ wr.drew;have hmd:RMem p L wr.drew sq:=hm.drewN 1;have htd:Turn L.lo L.hi W5 wr.drew:=ht.drewN 1;clear hm ht c3 ob cq;generalize wr.drew=wd at hmd htd ⊢;go_wp2_with fail;refine (HAD.out wd _ hmd (.at_ f x) ⟨hf,hxl⟩ b2').mono ?_;rintro e W6 ⟨rfl,hm6,ht6⟩;clear hmd;go_wp2_with fail;go_round
        case rel=>exact ⟨q+1,rfl,by omega,by rw [HFO.out]; exact hm6,htd.trans ht6⟩
        case measure=>exact ms (by omega)
       ·have hd1:=Df (show ¬ (q:Int)<nx.length by omega)
        have hd2:=Df hlq;have hqe:q=nx.length:=by omega
        rw [hqe,List.take_length] at hm;have hx6:Bx wr w.heap.size [.int .i64 op,.int .i64 a,.int .i64 bb,.int .i64 cc,.slice argA args.length argC]:=fun j v hv=>ht.cell (HX5.out j v hv) (.inr hG.2)
        have ht6:=HT5.out.trans ht;clear hlq hqe ht;go_upto_region 39 with fail;obtain ⟨z0,z1,z2,z3,z4⟩:=bx5 hx6;have c3:=hm.c3;have ob:=hm.outB f hf;by_cases hEn:k+1=p.len f∧op≠13∧op≠16∧op≠21
        ·have HL:=hid (show s.rinstr p f k=(nx.foldl (fun z j=>z.grow (.at_ f j) b2') s1).grow (.fin f) b2' from by rw [HE2.out,S.rlast,if_pos (HEN.out.2 hEn)])
         have g1:((k:Int) == (p.len f:Int) - 1)=true:=by simp; omega
         have g13:(op != 13)=true:=by simpa using hEn.2.1
         have g16:(op != 16)=true:=by simpa using hEn.2.2.1
         have g21:(op != 21)=true:=by simpa using hEn.2.2.2
         have c5:=hm.c5;clear hEn;go_wp2_with fail;refine (HAD.out wr _ hm (.fin f) hf b2').mono ?_;rintro e W6 ⟨rfl,hm66,ht66⟩;clear c3 ob c5 z0 z1 z2 z3 z4;go_wp2_with fail;go_end0;exact ⟨rfl,by rw [HL.out]; exact hm66,(ht6).trans ht66⟩
        ·have HL:=hid (show s.rinstr p f k=nx.foldl (fun z j=>z.grow (.at_ f j) b2') s1 from by rw [HE2.out,S.rlast,if_neg (fun e=>hEn (HEN.out.1 e))])
         by_cases he1:k+1=p.len f
         ·have g1:((k:Int) == (p.len f:Int) - 1)=true:=by simp; omega
          by_cases h13:op=13
          ·have g13:(op != 13)=false:=by simp [h13]
           clear hEn he1 h13;go_wp2_with fail;go_end0;exact ⟨rfl,by rw [HL.out]; exact hm,ht6⟩
          ·have g13:(op != 13)=true:=by simp [h13]
           by_cases h16:op=16
           ·have g16:(op != 16)=false:=by simp [h16]
            clear hEn he1 h13 h16;go_wp2_with fail;go_end0;exact ⟨rfl,by rw [HL.out]; exact hm,ht6⟩
           ·have g16:(op != 16)=true:=by simp [h16]
            have h21:op=21:=Classical.byContradiction fun e=>hEn ⟨he1,h13,h16,e⟩
            have g21:(op != 21)=false:=by simp [h21]
            clear hEn he1 h13 h16 h21;go_wp2_with fail;go_end0;exact ⟨rfl,by rw [HL.out]; exact hm,ht6⟩
         ·have g1:((k:Int) == (p.len f:Int) - 1)=false:=by simp; omega
          clear hEn he1;go_wp2_with fail;go_end0;exact ⟨rfl,by rw [HL.out]; exact hm,ht6⟩
   clear hK33;have hI:=HIN.out;have HAD0:Hid (∀ (W:World) (s:S) (_:RMem p L W s) (x:Slot) (_:x.In p),Calls Tryz.prog 72 #[.pointer (some ⟨L.A,0,none⟩),.pointer (some (L.sA x)),.int .i64 0] W (RLeft p L W (s.grow x 0) (.tuple #[]))):=hid (fun W s hm x hx=>radd_any p L W s hm x hx 0);by_cases h34:op=34
   ·subst h34
    obtain ⟨n0,n1⟩:=hI.call (.inr (.inl rfl));obtain ⟨x,rfl⟩:∃ x:Nat,bb=(x:Int):=⟨bb.toNat,by dsimp only at n0; omega⟩
    have hxn:x<p.funs.length:=by dsimp only at n1; omega
    have c4:=hm4.c4;have c6:=hm4.c6;have hxn2:(x:Int)<(p.funs.length:Int):=by omega
    have hx0:=zi x;obtain ⟨z0,z1,z2,z3,z4⟩:=bx5 hx4;go_upto_region 11 with fail;go_still_tail 8,(by kernel_rfl)
    change wpList _ _ _ _ _ W3.drew;have hmd:RMem p L W3.drew s:=hm4.drewN 1;have htd:Turn L.lo L.hi w W3.drew:=ht4.drewN 1;have hxd:Bx W3.drew w.heap.size [.int .i64 34,.int .i64 a,.int .i64 (x:Int),.int .i64 cc,.slice argA args.length argC]:=hx4;have hzd:w.heap.size<W3.drew.heap.size:=hz4;generalize W3.drew=wd at hmd htd hxd hzd ⊢;go_wp2_with fail;refine (HAD0.out wd _ hmd (.ent x) hxn).mono ?_;rintro e W6 ⟨rfl,hm6,ht6⟩;have hx6:Bx W6 w.heap.size [.int .i64 34,.int .i64 a,.int .i64 (x:Int),.int .i64 cc,.slice argA args.length argC]:=fun j v hv=>ht6.cell (hxd j v hv) (.inr hG.2)
    have hb:s.behind p f k=(b1,true):=by rw [HBE.out,if_neg (by decide),if_neg (by decide),if_neg (by decide),HE1.out,if_neg (by decide),HE0.out]
    have hfi:s.rfirst p f k=s.grow (.ent x) 0:=by rw [HFS.out,if_pos (by decide)]; rfl
    have hE:s.rinstr p f k=(s.grow (.ent x) 0).rgoOn p f k (b1,true):=by rw [HRI.out,hfi,hb]
    have hz6:=Nat.lt_of_lt_of_le hzd ht6.size;have ht7:=htd.trans ht6;clear c4 c6 z0 z1 z2 z3 z4 hmd htd hxd hzd hb hfi ht6;go_wp2_with fail;exact key33 _ _ _ _ _ _ _ _ _ _ _ _ _ _ _ _ _ _ _ _ _ _ _ _ _ _ _ _ _ _ _ _ _ _ _ _ _ _ _ _ _ _ _ _ _ _ _ _ _ _ _ _ _ _ _ _ _ _ _ _ _ _ _ _ _ _ _ _ _ _ _ _ _ _ _ _ _ _ _ _ _ _ _ _ _ _ _ _ _ _ _ _ _ _ _ _ _ _ _ _ _ _ _ _ _ _ _ _ _ _ _ _ _ _ _ _ _ _ _ _ _ _ _ _ _ _ _ _ _ _ _ _ _ _ _ _ _ _ _ _ _ _ _ _ _ _ _ _ _ _ _ _ _ _ _ _ _ _ _ _ _ _ _ _ _ _ _ _ _ _ _ _ _ _ _ _ _ _ _ _ _ _ _ _ _ _ _ b1 true _ W6 (fun _=>rfl) hm6 ht7 hx6 hz6 hE
   by_cases h17:op=17
   ·subst h17
    obtain ⟨n0,n1⟩:=hI.call (.inr (.inr rfl));obtain ⟨x,rfl⟩:∃ x:Nat,bb=(x:Int):=⟨bb.toNat,by dsimp only at n0; omega⟩
    have hxn:x<p.funs.length:=by dsimp only at n1; omega
    have c4:=hm4.c4;have c6:=hm4.c6;have hxn2:(x:Int)<(p.funs.length:Int):=by omega
    have hx0:=zi x;obtain ⟨z0,z1,z2,z3,z4⟩:=bx5 hx4;go_upto_region 13 with fail;go_still_tail 12,(by kernel_rfl)
    change wpList _ _ _ _ _ W3.drew;have hmd:RMem p L W3.drew s:=hm4.drewN 1;have htd:Turn L.lo L.hi w W3.drew:=ht4.drewN 1;have hxd:Bx W3.drew w.heap.size [.int .i64 17,.int .i64 a,.int .i64 (x:Int),.int .i64 cc,.slice argA args.length argC]:=hx4;have hzd:w.heap.size<W3.drew.heap.size:=hz4;generalize W3.drew=wd at hmd htd hxd hzd ⊢;go_wp2_with fail;refine (HAD.out wd _ hmd (.ent x) hxn (allM p)).mono ?_;rintro e W6 ⟨rfl,hm6,ht6⟩;have hx6:Bx W6 w.heap.size [.int .i64 17,.int .i64 a,.int .i64 (x:Int),.int .i64 cc,.slice argA args.length argC]:=fun j v hv=>ht6.cell (hxd j v hv) (.inr hG.2)
    have hb:s.behind p f k=(b1,true):=by rw [HBE.out,if_neg (by decide),if_neg (by decide),if_neg (by decide),HE1.out,if_neg (by decide),HE0.out]
    have hfi:s.rfirst p f k=s.grow (.ent x) (allM p):=by rw [HFS.out,if_neg (by decide),if_pos (by decide)]; rfl
    have hE:s.rinstr p f k=(s.grow (.ent x) (allM p)).rgoOn p f k (b1,true):=by rw [HRI.out,hfi,hb]
    have hz6:=Nat.lt_of_lt_of_le hzd ht6.size;have ht7:=htd.trans ht6;clear c4 c6 z0 z1 z2 z3 z4 hmd htd hxd hzd hb hfi ht6;go_wp2_with fail;exact key33 _ _ _ _ _ _ _ _ _ _ _ _ _ _ _ _ _ _ _ _ _ _ _ _ _ _ _ _ _ _ _ _ _ _ _ _ _ _ _ _ _ _ _ _ _ _ _ _ _ _ _ _ _ _ _ _ _ _ _ _ _ _ _ _ _ _ _ _ _ _ _ _ _ _ _ _ _ _ _ _ _ _ _ _ _ _ _ _ _ _ _ _ _ _ _ _ _ _ _ _ _ _ _ _ _ _ _ _ _ _ _ _ _ _ _ _ _ _ _ _ _ _ _ _ _ _ _ _ _ _ _ _ _ _ _ _ _ _ _ _ _ _ _ _ _ _ _ _ _ _ _ _ _ _ _ _ _ _ _ _ _ _ _ _ _ _ _ _ _ _ _ _ _ _ _ _ _ _ _ _ _ _ _ _ _ _ _ b1 true _ W6 (fun _=>rfl) hm6 ht7 hx6 hz6 hE
   by_cases h15:op=15
   ·subst h15
    obtain ⟨n0,n1⟩:=hI.call (.inl rfl);obtain ⟨x,rfl⟩:∃ x:Nat,bb=(x:Int):=⟨bb.toNat,by dsimp only at n0; omega⟩
    have hxn:x<p.funs.length:=by dsimp only at n1; omega
    have c3:=hm4.c3;have c4:=hm4.c4;have ob:=hm4.outB f hf;have cs:=(hm4.slot (.at_ f k) ⟨hf,hk⟩).1;unfold rv at cs;rw [HKN.out,if_pos rfl] at cs;replace cs:W3.cell? ⟨L.bb f,k,none⟩=_:=cs;have hxn2:(x:Int)<(p.funs.length:Int):=by omega
    have hx0:=zi x;obtain ⟨z0,z1,z2,z3,z4⟩:=bx5 hx4;go_upto_region 15 with fail;go_still_tail 18,(by kernel_rfl)
    change wpList _ _ _ _ _ W3.drew;have hmd:RMem p L W3.drew s:=hm4.drewN 1;have htd:Turn L.lo L.hi w W3.drew:=ht4.drewN 1;have hxd:Bx W3.drew w.heap.size [.int .i64 15,.int .i64 a,.int .i64 (x:Int),.int .i64 cc,.slice argA args.length argC]:=hx4;have hzd:w.heap.size<W3.drew.heap.size:=hz4;generalize W3.drew=wd at hmd htd hxd hzd ⊢;go_wp2_with fail;refine (HAD.out wd _ hmd (.ent x) hxn (s.get (.at_ f k)).2).mono ?_;rintro e W6 ⟨rfl,hm6,ht6⟩;have hx6:Bx W6 w.heap.size [.int .i64 15,.int .i64 a,.int .i64 (x:Int),.int .i64 cc,.slice argA args.length argC]:=fun j v hv=>ht6.cell (hxd j v hv) (.inr hG.2)
    have hz6:=Nat.lt_of_lt_of_le hzd ht6.size;have ht7:=htd.trans ht6;have hfi:s.rfirst p f k=s.grow (.ent x) (s.get (.at_ f k)).2:=by rw [HFS.out,if_neg (by decide),if_neg (by decide),if_pos (by decide)]; rfl
    have hb:s.behind p f k=((s.get (.fin x)).2,(s.get (.fin x)).1):=by rw [HBE.out,if_pos (by decide)]; rfl
    have c5:=hm6.c5;have cv:=(hm6.slot (.fin x) hxn).1;have hgs:(s.grow (.ent x) (s.get (.at_ f k)).2).get (.fin x)=s.get (.fin x):=by rw [S.get_grow hm4.sized (x:=.ent x) hxn,if_neg (by simp)]
    rw [hgs] at cv;replace cv:W6.cell? ⟨L.F,x,none⟩=_:=cv;have hE:s.rinstr p f k=(s.grow (.ent x) (s.get (.at_ f k)).2).rgoOn p f k ((s.get (.fin x)).2,(s.get (.fin x)).1):=by rw [HRI.out,hfi,hb]
    clear c3 c4 ob cs z0 z1 z2 z3 z4 hmd htd hxd hzd hb hfi ht6 hgs;obtain ⟨z0,z1,z2,z3,z4⟩:=bx5 hx6;generalize hvv:s.get (.fin x)=vf at cv hE;clear hvv;obtain ⟨kf,sf⟩:=vf;dsimp only at hE;generalize hrv:rv (kf,sf)=r at cv
    have gr:decide (0≤r)=kf:=by
     rw [← hrv]
     cases kf with
     | false=>rfl
     | true=>exact decide_eq_true (by show (0:Int)≤(sf.toNat:Int); omega)
    have hr2:kf=true→r=(sf.toNat:Int):=fun e=>by rw [← hrv,e]; rfl
    clear hrv;go_wp2_with fail;go_quiet (fail);exact key33 _ _ _ _ _ _ _ _ _ _ _ _ _ _ _ _ _ _ _ _ _ _ _ _ _ _ _ _ _ _ _ _ _ _ _ _ _ _ _ _ _ _ _ _ _ _ _ _ _ _ _ _ _ _ _ _ _ _ _ _ _ _ _ _ _ _ _ _ _ _ _ _ _ _ _ _ _ _ _ _ _ _ _ _ _ _ _ _ _ _ _ _ _ _ _ _ _ _ _ _ _ _ _ _ _ _ _ _ _ _ _ _ _ _ _ _ _ _ _ _ _ _ _ _ _ _ _ _ _ _ _ _ _ _ _ _ _ _ _ _ _ _ _ _ _ _ _ _ _ _ _ _ _ _ _ _ _ _ _ _ _ _ _ _ _ _ _ _ _ _ _ _ _ _ _ _ _ _ _ _ _ _ _ _ _ _ _ sf kf _ _ hr2 (hm6.drewN _) (ht7.drewN _) hx6 hz6 hE
   by_cases h36:op=36
   ·subst h36
    have c7:=hm4.c7;obtain ⟨z0,z1,z2,z3,z4⟩:=bx5 hx4;have ha:acqBit p ⟨36,a,bb,cc,args,argA,argC⟩=0:=rfl;have hb:s.behind p f k=(b1 ||| cleanM p,true):=by rw [HBE.out,if_neg (by decide),if_pos (by decide),HE1.out,if_neg (by decide),HE0.out,ha,or_z]
    have hfi:s.rfirst p f k=s:=by rw [HFS.out,if_neg (by decide),if_neg (by decide),if_neg (by decide),if_neg (by decide),if_neg (by decide)]
    have hE:s.rinstr p f k=s.rgoOn p f k (b1 ||| cleanM p,true):=by rw [HRI.out,hfi,hb]
    have hor:=or_iv b1 (cleanM p);clear hb hfi ha;go_wp2_with fail;exact key33 _ _ _ _ _ _ _ _ _ _ _ _ _ _ _ _ _ _ _ _ _ _ _ _ _ _ _ _ _ _ _ _ _ _ _ _ _ _ _ _ _ _ _ _ _ _ _ _ _ _ _ _ _ _ _ _ _ _ _ _ _ _ _ _ _ _ _ _ _ _ _ _ _ _ _ _ _ _ _ _ _ _ _ _ _ _ _ _ _ _ _ _ _ _ _ _ _ _ _ _ _ _ _ _ _ _ _ _ _ _ _ _ _ _ _ _ _ _ _ _ _ _ _ _ _ _ _ _ _ _ _ _ _ _ _ _ _ _ _ _ _ _ _ _ _ _ _ _ _ _ _ _ _ _ _ _ _ _ _ _ _ _ _ _ _ _ _ _ _ _ _ _ _ _ _ _ _ _ _ _ _ _ _ _ _ _ _ (b1 ||| cleanM p) true _ W3 (fun _=>by rw [BitVec.toNat_or]) hm4 ht4 hx4 hz4 hE
   by_cases h16:op=16
   ·subst h16
    have c5:=hm4.c5;obtain ⟨z0,z1,z2,z3,z4⟩:=bx5 hx4;have ha:acqBit p ⟨16,a,bb,cc,args,argA,argC⟩=0:=rfl;have hb1:b1=(s.get (.at_ f k)).2:=by rw [HE1.out,if_neg (by decide),HE0.out,ha,or_z]
    have hb:s.behind p f k=(b1,true):=by rw [HBE.out,if_neg (by decide),if_neg (by decide),if_neg (by decide),HE1.out,if_neg (by decide),HE0.out]
    have hfi:s.rfirst p f k=s.grow (.fin f) b1:=by rw [HFS.out,if_neg (by decide),if_neg (by decide),if_neg (by decide),if_pos (by decide),hb1]
    have hE:s.rinstr p f k=(s.grow (.fin f) b1).rgoOn p f k (b1,true):=by rw [HRI.out,hfi,hb]
    clear hb hfi ha hb1;go_wp2_with fail;refine (HAD.out W3 _ hm4 (.fin f) hf b1).mono ?_;rintro e W6 ⟨rfl,hm6,ht6⟩;have hx6:Bx W6 w.heap.size [.int .i64 16,.int .i64 a,.int .i64 bb,.int .i64 cc,.slice argA args.length argC]:=fun j v hv=>ht6.cell (hx4 j v hv) (.inr hG.2)
    have hz6:=Nat.lt_of_lt_of_le hz4 ht6.size;have ht7:=ht4.trans ht6;clear c5 z0 z1 z2 z3 z4 ht6;go_wp2_with fail;exact key33 _ _ _ _ _ _ _ _ _ _ _ _ _ _ _ _ _ _ _ _ _ _ _ _ _ _ _ _ _ _ _ _ _ _ _ _ _ _ _ _ _ _ _ _ _ _ _ _ _ _ _ _ _ _ _ _ _ _ _ _ _ _ _ _ _ _ _ _ _ _ _ _ _ _ _ _ _ _ _ _ _ _ _ _ _ _ _ _ _ _ _ _ _ _ _ _ _ _ _ _ _ _ _ _ _ _ _ _ _ _ _ _ _ _ _ _ _ _ _ _ _ _ _ _ _ _ _ _ _ _ _ _ _ _ _ _ _ _ _ _ _ _ _ _ _ _ _ _ _ _ _ _ _ _ _ _ _ _ _ _ _ _ _ _ _ _ _ _ _ _ _ _ _ _ _ _ _ _ _ _ _ _ _ _ _ _ _ b1 true _ W6 (fun _=>rfl) hm6 ht7 hx6 hz6 hE
   by_cases h35:op=35
   ·subst h35
    obtain ⟨n0,n1⟩:=hI.open_ rfl;obtain ⟨C,rfl⟩:∃ C:Nat,cc=(C:Int):=⟨cc.toNat,by dsimp only at n0; omega⟩
    have hCn:C<p.len f:=by dsimp only at n1; have:(p.fn f).code.length=p.len f:=rfl; omega
    have hCn2:(C:Int)<(p.len f:Int):=by omega
    have hC0:=zi C;have c3:=hm4.c3;have c7:=hm4.c7;have ob:=hm4.outB f hf;obtain ⟨z0,z1,z2,z3,z4⟩:=bx5 hx4;go_upto_region 22 with fail;go_still_tail 15,(by kernel_rfl)
    change wpList _ _ _ _ _ W3.drew;have hmd:RMem p L W3.drew s:=hm4.drewN 1;have htd:Turn L.lo L.hi w W3.drew:=ht4.drewN 1;have hxd:Bx W3.drew w.heap.size [.int .i64 35,.int .i64 a,.int .i64 bb,.int .i64 (C:Int),.slice argA args.length argC]:=hx4;have hzd:w.heap.size<W3.drew.heap.size:=hz4;generalize W3.drew=wd at hmd htd hxd hzd ⊢;go_wp2_with fail;refine (HAD.out wd _ hmd (.at_ f C) ⟨hf,hCn⟩ (cleanM p)).mono ?_;rintro e W6 ⟨rfl,hm6,ht6⟩;have hx6:Bx W6 w.heap.size [.int .i64 35,.int .i64 a,.int .i64 bb,.int .i64 (C:Int),.slice argA args.length argC]:=fun j v hv=>ht6.cell (hxd j v hv) (.inr hG.2)
    have hz6:=Nat.lt_of_lt_of_le hzd ht6.size;have ht7:=htd.trans ht6;have hh6:=hm6.hi;have hb:s.behind p f k=(b1,true):=by rw [HBE.out,if_neg (by decide),if_neg (by decide),if_neg (by decide),HE1.out,if_neg (by decide),HE0.out]
    have hfi:s.rfirst p f k=(insideR p f k).foldl (S.openStep p f C) (s.grow (.at_ f C) (cleanM p)):=by rw [HFS.out,if_neg (by decide),if_neg (by decide),if_neg (by decide),if_neg (by decide),if_pos (by decide),HOP.out trivial]; rfl
    have hE:s.rinstr p f k=((insideR p f k).foldl (S.openStep p f C) (s.grow (.at_ f C) (cleanM p))).rgoOn p f k (b1,true):=by rw [HRI.out,hfi,hb]
    have HE3:=hid hE;have hLm:∀ j∈insideR p f k,j<p.len f:=fun j hj=>by have:=mem_insideR.1 hj; rw [insideM_eq] at this; exact from_mem this
    have hLn:(insideR p f k).length≤p.len f:=Nat.le_trans (List.length_filter_le _ _) (by rw [List.length_range]; exact Nat.le_refl _);have c0:=hm6.c0;have c1:=hm6.c1;have c2:=hm6.c2;rw [HA.out] at c0;clear c3 c7 ob z0 z1 z2 z3 z4 hmd htd hxd hzd hb hfi ht6 hE;go_wp2_with fail;refine (HIS.out W6 (hm6.prog.more (Nat.le_trans hh6.1 hh6.2))).mono ?_;rintro e W7 ⟨A7,c9,rfl,hrd,hfr,hb7⟩;have hm7:=hm6.below hb7;have ht8:=ht7.trans (Turn.of_below hb7);have hx7:Bx W7 w.heap.size [.int .i64 35,.int .i64 a,.int .i64 bb,.int .i64 (C:Int),.slice argA args.length argC]:=hx6.below hb7 hz6;have hz7:=Nat.lt_of_lt_of_le hz6 hb7.size;generalize insideR p f k=LL at hrd HE3 hLm hLn ⊢;clear c0 c1 c2 hm6 ht7 hx6 hz6 hb7;by_cases hn0:LL.length=0
    ·have hnx:LL=[]:=List.eq_nil_of_length_eq_zero hn0
     subst hnx;go_upto_region 25 with fail;go_loopw [13] (fun v wr=>v=.int .i64 0∧wr=W7) (fun _ _=>0)
     case atStart=>exact ⟨rfl,rfl⟩
     case round=>
      obtain ⟨rfl,rfl⟩:=hrel;go_wp2_with fail;exact key33 _ _ _ _ _ _ _ _ _ _ _ _ _ _ _ _ _ _ _ _ _ _ _ _ _ _ _ _ _ _ _ _ _ _ _ _ _ _ _ _ _ _ _ _ _ _ _ _ _ _ _ _ _ _ _ _ _ _ _ _ _ _ _ _ _ _ _ _ _ _ _ _ _ _ _ _ _ _ _ _ _ _ _ _ _ _ _ _ _ _ _ _ _ _ _ _ _ _ _ _ _ _ _ _ _ _ _ _ _ _ _ _ _ _ _ _ _ _ _ _ _ _ _ _ _ _ _ _ _ _ _ _ _ _ _ _ _ _ _ _ _ _ _ _ _ _ _ _ _ _ _ _ _ _ _ _ _ _ _ _ _ _ _ _ _ _ _ _ _ _ _ _ _ _ _ _ _ _ _ _ _ _ _ _ _ _ _ b1 true _ _ (fun _=>rfl) hm7 ht8 hx7 hz7 HE3.out
    ·obtain ⟨b9,o9,rfl,hb9',hc9⟩:=hrd.addr (by omega)
     have hge:L.hi≤b9:=Nat.le_trans hh6.2 (hfr b9 o9 rfl);have hcn:∀ i (h:i<LL.length),W7.cell? ⟨b9,o9+i,none⟩=some (.int .i64 (LL[i]:Int)):=fun i h=>hc9 i _ (by simp [i64s,nats,h])
     have HCN:=hid hcn;have HX7:=hid hx7;have HT8:=hid ht8;clear hcn hc9 hfr hrd hn0 hx7 ht8;go_upto_region 25 with fail;go_loopw [13] (fun v wr=>∃ q:Nat,v=.int .i64 q∧q≤LL.length∧RMem p L wr ((LL.take q).foldl (S.openStep p f C) (s.grow (.at_ f C) (cleanM p)))∧Turn L.lo L.hi W7 wr) (fun v _=>LL.length - (intOf v).toNat)
     case atStart=>exact ⟨0,rfl,by omega,hm7,Turn.refl _ _ _⟩
     case round=>
      clear hm7;obtain ⟨q,rfl,hq,hm,ht⟩:=hrel;have hq0:=zi q;have hwq:=Wi q (by omega);by_cases hlq:q<LL.length
      ·have hd1:=Dt (show (q:Int)<LL.length by omega)
       have hd2:=Dt hlq;have hql:(q:Int)<(LL.length:Int):=by omega
       have cq:=ht.cell (HCN.out q hlq) (.inr hge);have HFO:=hid (show (LL.take (q+1)).foldl (S.openStep p f C) (s.grow (.at_ f C) (cleanM p))=S.openStep p f C ((LL.take q).foldl (S.openStep p f C) (s.grow (.at_ f C) (cleanM p))) LL[q] from by rw [List.take_succ_eq_append_getElem hlq,List.foldl_append]; rfl);have hjl:=hLm LL[q] (List.getElem_mem _);generalize LL[q]=j at cq HFO hjl;have hj0:=zi j;have hjl2:(j:Int)<(p.len f:Int):=by omega
       generalize hst:(LL.take q).foldl (S.openStep p f C) (s.grow (.at_ f C) (cleanM p))=sq at hm HFO;clear hst;have c3:=hm.c3;have ob:=hm.outB f hf;have cs:=(hm.slot (.at_ f j) ⟨hf,hjl⟩).1;replace cs:wr.cell? ⟨L.bb f,j,none⟩=_:=cs
       cases hkj:(sq.get (.at_ f j)).1 with
       | false=>
        have hrv:rv (sq.get (.at_ f j)) = -1:=by unfold rv; rw [hkj]; rfl
        rw [hrv] at cs;have HE4:=hid (show S.openStep p f C sq j=sq from by unfold S.openStep; rw [hkj]; rfl);clear hrv hkj;go_wp2_with fail;go_round
        case rel=>exact ⟨q+1,rfl,by omega,by rw [HFO.out,HE4.out]; exact hm,ht⟩
        case measure=>exact ms (by omega)
       | true=>
        have hrv:rv (sq.get (.at_ f j))=((sq.get (.at_ f j)).2.toNat:Int):=by unfold rv; rw [hkj]; rfl
        rw [hrv] at cs;have hx0:=Df (show ¬ (((sq.get (.at_ f j)).2.toNat:Int)<0) by omega);have HE4:=hid (show S.openStep p f C sq j=(if (p.ins f j).op=15 then (sq.grow (.at_ f C) (sq.get (.at_ f j)).2).grow (.at_ f C) ((sq.grow (.at_ f C) (sq.get (.at_ f j)).2).within p (p.ins f j).b.toNat) else sq.grow (.at_ f C) (sq.get (.at_ f j)).2) from by unfold S.openStep; rw [hkj]; rfl);have hxr:Bx wr w.heap.size [.int .i64 35,.int .i64 a,.int .i64 bb,.int .i64 (C:Int),.slice argA args.length argC]:=fun i v hv=>ht.cell (HX7.out i v hv) (.inr hG.2)
        obtain ⟨z0,z1,z2,z3,z4⟩:=bx5 hxr;clear hrv hkj;go_upto_region 29 with fail;go_still_tail 21,(by kernel_rfl)
        change wpList _ _ _ _ _ wr.drew;have hmd:RMem p L wr.drew sq:=hm.drewN 1;have htd:Turn L.lo L.hi W7 wr.drew:=ht.drewN 1;generalize wr.drew=wd at hmd htd ⊢;go_wp2_with fail;refine (HAD.out wd _ hmd (.at_ f C) ⟨hf,hCn⟩ (sq.get (.at_ f j)).2).mono ?_;rintro e W8 ⟨rfl,hm8,ht8⟩;have ht9:=htd.trans ht8;clear z0 z1 z2 z3 z4 c3 ob cs cq hmd htd ht8 hm ht hxr;generalize sq.grow (.at_ f C) (sq.get (.at_ f j)).2=s8 at hm8 HE4;clear hx0;obtain ⟨q0,q1,q2,q3,q4⟩:=HI0.out W8 s8 hm8 j hjl;have c0:=hm8.c0;have d5:=HD5.out W8 s8 hm8;rw [HA.out] at c0;go_upto_region 31 with fail;have hbx:=bx_new W8 #[.int .i64 (p.ins f j).op,.int .i64 (p.ins f j).a,.int .i64 (p.ins f j).b,.int .i64 (p.ins f j).c,.slice (p.ins f j).argA (p.ins f j).args.length (p.ins f j).argC] 63
        have hba:=below_alloc W8 (.cells #[.int .i64 (p.ins f j).op,.int .i64 (p.ins f j).a,.int .i64 (p.ins f j).b,.int .i64 (p.ins f j).c,.slice (p.ins f j).argA (p.ins f j).args.length (p.ins f j).argC] 63);have hm9:=hm8.below hba;have ht10:=ht9.trans (Turn.of_below hba);have hzz:=hm8.hi.2;have hnw:W8.heap.size<(W8.alloc (.cells #[.int .i64 (p.ins f j).op,.int .i64 (p.ins f j).a,.int .i64 (p.ins f j).b,.int .i64 (p.ins f j).c,.slice (p.ins f j).argA (p.ins f j).args.length (p.ins f j).argC] 63)).heap.size:=by simp
        generalize World.alloc W8 _=W9 at hbx hm9 ht10 hnw ⊢;clear c0 d5 q0 q1 q2 q3 q4 hba hm8 ht9;generalize W8.heap.size=G8 at hbx hzz hnw ⊢;obtain ⟨y0,y1,y2,y3,y4⟩:=bx5 hbx;by_cases hj15:(p.ins f j).op=15
        ·have g15:((p.ins f j).op == 15)=true:=by simp [hj15]
         have HE5:=hid (HE4.out.trans (if_pos hj15));obtain ⟨m0,m1⟩:=(HINJ.out j hjl).call (.inl hj15);obtain ⟨bn,hbn⟩:∃ bn:Nat,(p.ins f j).b=(bn:Int):=⟨(p.ins f j).b.toNat,by omega⟩
         have hbl:bn<p.funs.length:=by omega
         rw [hbn] at y2;have HE6:=hid (show S.openStep p f C sq j=s8.grow (.at_ f C) (s8.within p bn) from by rw [HE5.out,hbn]; rfl);have hxr:Bx W9 w.heap.size [.int .i64 35,.int .i64 a,.int .i64 bb,.int .i64 (C:Int),.slice argA args.length argC]:=fun i v hv=>ht10.cell (HX7.out i v hv) (.inr hG.2)
         obtain ⟨z0,z1,z2,z3,z4⟩:=bx5 hxr;have c3:=hm9.c3;have ob:=hm9.outB f hf;clear hj15 hbn m0 m1;go_upto_region 32 with fail;refine wp_region_held_drew (S:=fun W=>W.cell? ⟨L.A,3,none⟩=some (.slice (some ⟨L.B,0,none⟩) p.funs.length L.cB)∧W.cell? ⟨L.B,f,none⟩=some (.slice (some ⟨L.bb f,0,none⟩) (p.len f) (L.cb f))∧W.cell? ⟨w.heap.size,3,none⟩=some (.int .i64 (C:Int))∧W.cell? ⟨G8,2,none⟩=some (.int .i64 (bn:Int))) (by kernel_rfl) ⟨c3,ob,z3,y2⟩ (fun hHeld=>?_);have hmd:RMem p L W9.drew s8:=hm9.drewN 1;have htd:Turn L.lo L.hi W7 W9.drew:=ht10.drewN 1;clear z0 z1 z2 z3 z4 c3 ob y0 y1 y2 y3 y4 hm9 ht10 hxr hbx hnw;generalize W9.drew=wd at hmd htd hHeld ⊢;have HSD:=hid hHeld;refine tkH 0 rfl ?_;try simp only [frS,Act.put]
         refine tkH 1 rfl ?_;try simp only [frS,Act.put]
         refine tkH 2 rfl ?_;try simp only [frS,Act.put]
         refine tkH 3 rfl ?_;try simp only [frS,Act.put]
         refine tkH 4 rfl ?_;try simp only [frS,Act.put]
         refine tkH 5 rfl ?_;try simp only [frS,Act.put]
         refine tkH 6 rfl ?_;try simp only [frS,Act.put]
         refine tkH 7 rfl ?_;try simp only [frS,Act.put]
         refine tkH 8 rfl ?_;try simp only [frS,Act.put]
         refine tkH 9 rfl ?_;try simp only [frS,Act.put]
         refine tkH 10 rfl ?_;try simp only [frS,Act.put]
         refine tkH 11 rfl ?_;try simp only [frS,Act.put]
         refine tkH 12 rfl ?_;try simp only [frS,Act.put]
         refine tkH 13 rfl ?_;try simp only [frS,Act.put]
         refine rdH 14 rfl fun K hK=>?_
         go_simp;refine (HWI.out wd _ hmd bn hbl).mono ?_;rintro e Wa ⟨rfl,hba⟩;have hma:=hmd.below hba;have hta:=htd.trans (Turn.of_below hba);have HSA:=hid (And.intro ((hba.cell (block_lt_of_cell HSD.out.2.2.1)).trans HSD.out.2.2.1) ((hba.cell (block_lt_of_cell HSD.out.2.2.2)).trans HSD.out.2.2.2))
         try dsimp only
         refine hK.out _ _ ?_ (fun hHeld=>?_)
         ·exact ⟨(hba.cell (block_lt_of_cell HSD.out.1)).trans HSD.out.1,(hba.cell (block_lt_of_cell HSD.out.2.1)).trans HSD.out.2.1,(hba.cell (block_lt_of_cell HSD.out.2.2.1)).trans HSD.out.2.2.1,(hba.cell (block_lt_of_cell HSD.out.2.2.2)).trans HSD.out.2.2.2⟩
         clear hK K;try simp only [frS,Act.put]
         refine rdH 15 rfl fun K hK=>?_
         go_simp;refine (HAD.out Wa _ hma (.at_ f C) ⟨hf,hCn⟩ (s8.within p bn)).mono ?_;rintro e Wb ⟨rfl,hmb,htb⟩
         try dsimp only
         refine hK.out _ _ ?_ (fun hHeld=>?_)
         ·exact ⟨hmb.c3,hmb.outB f hf,htb.cell HSA.out.1 (.inr hG.2),htb.cell HSA.out.2 (.inr hzz)⟩
         clear hK K;try simp only [frS,Act.put]
         refine wpAnyH_done (by kernel_rfl) ?_ _
         try dsimp only [Exit.then]
         clear hma hba hmd htd hHeld HSD HSA;go_wp2_with fail;go_round
         case rel=>exact ⟨q+1,rfl,by omega,by rw [HFO.out,HE6.out]; exact hmb,hta.trans htb⟩
         case measure=>exact ms (by omega)
        ·have g15:((p.ins f j).op == 15)=false:=by simp [hj15]
         have HE5:=hid (HE4.out.trans (if_neg hj15));clear hj15;go_wp2_with fail;go_round
         case rel=>exact ⟨q+1,rfl,by omega,by rw [HFO.out,HE5.out]; exact hm9,ht10⟩
         case measure=>exact ms (by omega)
      ·have hd1:=Df (show ¬ (q:Int)<LL.length by omega)
       have hd2:=Df hlq;have hqe:q=LL.length:=by omega
       rw [hqe,List.take_length] at hm;have hx6:Bx wr w.heap.size [.int .i64 35,.int .i64 a,.int .i64 bb,.int .i64 (C:Int),.slice argA args.length argC]:=fun j v hv=>ht.cell (HX7.out j v hv) (.inr hG.2)
       have ht6:=HT8.out.trans ht;have hz6:=Nat.lt_of_lt_of_le hz7 ht.size;clear hlq hqe;go_wp2_with fail;exact key33 _ _ _ _ _ _ _ _ _ _ _ _ _ _ _ _ _ _ _ _ _ _ _ _ _ _ _ _ _ _ _ _ _ _ _ _ _ _ _ _ _ _ _ _ _ _ _ _ _ _ _ _ _ _ _ _ _ _ _ _ _ _ _ _ _ _ _ _ _ _ _ _ _ _ _ _ _ _ _ _ _ _ _ _ _ _ _ _ _ _ _ _ _ _ _ _ _ _ _ _ _ _ _ _ _ _ _ _ _ _ _ _ _ _ _ _ _ _ _ _ _ _ _ _ _ _ _ _ _ _ _ _ _ _ _ _ _ _ _ _ _ _ _ _ _ _ _ _ _ _ _ _ _ _ _ _ _ _ _ _ _ _ _ _ _ _ _ _ _ _ _ _ _ _ _ _ _ _ _ _ _ _ _ _ _ _ _ b1 true _ _ (fun _=>rfl) hm ht6 hx6 hz6 HE3.out
   have g34:(op == 34)=false:=by simp [h34]
   have g17:(op == 17)=false:=by simp [h17]
   have g15:(op == 15)=false:=by simp [h15]
   have g36:(op == 36)=false:=by simp [h36]
   have g16:(op == 16)=false:=by simp [h16]
   have g35:(op == 35)=false:=by simp [h35]
   have hb:s.behind p f k=(b1,true):=by
    rw [HBE.out,if_neg h15,if_neg h36,HE1.out];by_cases hr:op=52∨op=54∨op=56
    ·rw [if_pos hr,if_pos hr,HE0.out]
     have ha:acqBit p ⟨op,a,bb,cc,args,argA,argC⟩=0:=by
      simp only [acqBit,acq];rw [if_neg (by omega),if_neg (by omega),if_neg (by omega)]
     rw [ha,or_z]
    ·rw [if_neg hr,if_neg hr,HE0.out]
   have hfi:s.rfirst p f k=s:=by rw [HFS.out,if_neg h34,if_neg h17,if_neg h15,if_neg h16,if_neg h35]
   have hE:s.rinstr p f k=s.rgoOn p f k (b1,true):=by rw [HRI.out,hfi,hb]
   clear hb hfi h34 h17 h15 h36 h16 h35;go_wp2_with fail;exact key33 _ _ _ _ _ _ _ _ _ _ _ _ _ _ _ _ _ _ _ _ _ _ _ _ _ _ _ _ _ _ _ _ _ _ _ _ _ _ _ _ _ _ _ _ _ _ _ _ _ _ _ _ _ _ _ _ _ _ _ _ _ _ _ _ _ _ _ _ _ _ _ _ _ _ _ _ _ _ _ _ _ _ _ _ _ _ _ _ _ _ _ _ _ _ _ _ _ _ _ _ _ _ _ _ _ _ _ _ _ _ _ _ _ _ _ _ _ _ _ _ _ _ _ _ _ _ _ _ _ _ _ _ _ _ _ _ _ _ _ _ _ _ _ _ _ _ _ _ _ _ _ _ _ _ _ _ _ _ _ _ _ _ _ _ _ _ _ _ _ _ _ _ _ _ _ _ _ _ _ _ _ _ _ _ _ _ _ b1 true _ W3 (fun _=>rfl) hm4 ht4 hx4 hz4 hE
  clear hK8;by_cases hr:op=52∨op=54∨op=56
  ·have hra:rl=a:=by rw [← hrl]; exact if_pos hr
   have hia:Idx a p.obs.length:=by
    rcases hr with e | e | e
    ·exact (HIN.out.lock (.inr e)).1
    ·exact (HIN.out.rw (.inr (.inl e))).1
    ·exact (HIN.out.rw (.inr (.inr (.inr e)))).1
   obtain ⟨n0,n1⟩:=hia;obtain ⟨m,rfl⟩:∃ m:Nat,a=(m:Int):=⟨a.toNat,by omega⟩
   have HSH:=hid (shl_w (m:=m) (by omega));have g0:=Dt (show (0:Int)≤(m:Int) by omega);have hm0:=zi m;have HK9:=hid key8;clear key8 n0 n1 hrl;subst hra;go_wp2_with fail;rw [HSH.out,andNot_iv];exact HK9.out _ _ _ _ _ _ _ (by rw [if_pos hr]; rfl)
  ·have hra:rl = -1:=by rw [← hrl]; exact if_neg hr
   clear hrl;subst hra;have HK9:=hid key8;clear key8;go_wp2_with fail;exact HK9.out _ _ _ _ _ _ b0 (if_neg hr).symm
 clear hK5;have HK5:=hid key5;clear key5
 cases hac:acq p ⟨op,a,bb,cc,args,argA,argC⟩ with
 | some l=>
  have hl2:lq=l:=by rw [← hlq]; unfold lqI; rw [hac]
  obtain ⟨⟨n0,n1⟩,-⟩:=HAI.out l hac;obtain ⟨m,hm⟩:∃ m:Nat,l=(m:Int):=⟨l.toNat,by omega⟩
  have hmr:lq=(m:Int):=hl2.trans hm;have hab:acqBit p ⟨op,a,bb,cc,args,argA,argC⟩=bit m:=by unfold acqBit; rw [hac,hm]; rfl
  have HSH:=hid (shl_w (m:=m) (by omega));have g0:=Dt (show (0:Int)≤(m:Int) by omega);have hm0:=zi m;have HAB:=hid hab;clear n0 n1 hl2 hlq hab hac;subst hmr;go_wp2_with fail;rw [HSH.out,or_iv];exact HK5.out _ _ _ _ _ _ _ (by rw [HAB.out])
 | none=>
  have hl2:lq = -1:=by rw [← hlq]; unfold lqI; rw [hac]
  have hab:acqBit p ⟨op,a,bb,cc,args,argA,argC⟩=0:=by unfold acqBit; rw [hac]
  have HAB:=hid hab;clear hlq hac hab;subst hl2;go_wp2_with fail;exact HK5.out _ _ _ _ _ _ _ (by rw [HAB.out,or_z])
end Go.Proofs.YtkpjdanfpolimaaGreat
