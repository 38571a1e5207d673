/- program.checkFunc, walked: an error number comes back, none exactly if the function is valid. Conditions: the program lies in memory. -/
import Derived.Test.YtkpjdanfpolimaaGreatLcInstr
import Derived.Test.YtkpjdanfpolimaaGreatLcRchk
set_option maxRecDepth 100000
set_option maxHeartbeats 6400000
namespace Go.Proofs.YtkpjdanfpolimaaGreat
open Go.RowKit Go.Shelf
def Fits (p:Prg):Prop:=∀ f∈p.funs,∀ i∈f.code,I64 i.a∧I64 i.b∧I64 i.c∧∀ x∈i.args,I64 x
theorem chkFn_any (p:Prg) (k:Nat) (hk:k<p.funs.length) (hfit:Fits p) (w:World) (h:Lies w w.heap.size p):Calls Tryz.prog 83 #[p.val,.int .i64 k] w (RetE (fnOk p k p.funs[k]) w):=by
 have hn:=h.funN;unfold maxLen at hn;obtain ⟨b,off,hA,hb,c0,c1,c2,c3,c4,c5⟩:=h.fn hk;obtain ⟨hcN,hnm,hcc⟩:=h.codeN p.funs[k] (List.getElem_mem _);have hf:p.funs[k]∈p.funs:=List.getElem_mem _;obtain ⟨f,ho⟩:∃ f,p.funs[k]=f:=⟨_,rfl⟩
 rw [ho] at c0 c1 c2 c3 c4 c5 hnm hcN hcc hf ⊢;unfold maxLen at hcN;obtain ⟨V,hV⟩:∃ V,V=fnOk p k f:=⟨_,rfl⟩
 rw [← hV];have HV:=hid (iff_of_eq hV);clear hV;obtain ⟨B1,hB1⟩:∃ B,nameOk f.name.data.toList=B:=⟨_,rfl⟩
 obtain ⟨B2,hB2⟩:∃ B,(p.funs.take k).any (fun x=>x.name == f.name)=B:=⟨_,rfl⟩
 obtain ⟨B3,hB3⟩:∃ B,inR2 f.params 0 8=B:=⟨_,rfl⟩
 obtain ⟨B4,hB4⟩:∃ B,inR2 f.regs f.params 32=B:=⟨_,rfl⟩
 obtain ⟨B5,hB5⟩:∃ B,inR2 f.prio 0 9=B:=⟨_,rfl⟩
 have HVI:Hid (V↔B1=true∧B2=false∧B3=true∧B4=true∧B5=true∧¬ (f.clean=true∧f.prio≠0)∧f.code.length≤200∧(k=0→f.params=0∧f.clean=false)∧∀ i∈f.code,insOk p f i):=hid (by
  rw [← hB1,← hB2,← hB3,← hB4,← hB5,names_iff (nmOf:=Fn.name)];exact HV.out)
 have HRG:=hid (show B3=true→B4=true→0≤f.regs∧f.regs≤32 from fun v3 v4=>by rw [← hB3] at v3; rw [← hB4] at v4; rw [inR2_iff] at v3 v4; omega);have HP0:=hid (show B3=true→0≤f.params from fun v3=>by rw [← hB3,inR2_iff] at v3; omega)
 have HIN:=hid (show (0≤f.regs∧f.regs≤32)→∀ (j:Nat) (hj:j<f.code.length) (W:World),Below w.heap.size w W→Calls Tryz.prog 110 #[ckVal p f,f.code[j].val] W (RetE (insOk p f f.code[j]) W) from fun hr j hj W hb=>by
  have hm:f.code[j]∈f.code:=List.getElem_mem _;have hI:=hfit f hf _ hm;exact instr_any p f hf _ (h.argN f hf _ hm).1 (h.argN f hf _ hm).2 hr hI.1 hI.2.1 hI.2.2.1 hI.2.2.2 W (h.next hb) (((h.args f hf _ hm).below hb).more hb.size))
 have HNM:=hid (show ∀ W,Calls Tryz.prog 101 #[.string f.name] W (Ret (.bool B1) W) from fun W=>by have:=isName_any f.name hnm W; rwa [hB1] at this);have HW1:=hid (show ∀ W,Calls Tryz.prog 102 #[.int .i64 f.params,.int .i64 0,.int .i64 8] W (Ret (.bool B3) W) from fun W=>by have:=within_any f.params 0 8 W; rwa [hB3] at this);have HW2:=hid (show ∀ W,Calls Tryz.prog 102 #[.int .i64 f.regs,.int .i64 f.params,.int .i64 32] W (Ret (.bool B4) W) from fun W=>by have:=within_any f.regs f.params 32 W; rwa [hB4] at this);have HW3:=hid (show ∀ W,Calls Tryz.prog 102 #[.int .i64 f.prio,.int .i64 0,.int .i64 9] W (Ret (.bool B5) W) from fun W=>by have:=within_any f.prio 0 9 W; rwa [hB5] at this);have hlk:(p.funs.take k).length=k:=by rw [List.length_take]; omega
 have hcon:∀ (g:Nat) (W:World) (hb:Below w.heap.size w W),g<W.heap.size→W.cell? ⟨g,0,none⟩=some (.string f.name)→Calls Tryz.prog 108 #[.slice (some ⟨b,off,none⟩) k p.funC,.func (.func 109) #[] #[.pointer (some ⟨g,0,none⟩)]] W (Ret (.bool B2) W):=fun g W hb hg hc=>by
  have hcall:=hasFn1 (some ⟨b,off,none⟩) p.funC (p.funs.take k) f.name g W (by have h9:=RdL.take (RdL_next h.funs hb) (fun _=>rfl) (k:=k) (by omega); rw [hA] at h9; exact h9) (by rw [hlk]; unfold maxLen; omega) hg hc;rw [hlk] at hcall
  rwa [hB2] at hcall
 have HCON:=hid hcon;have hk0:=zi k;have hk1:(k:Int)<(p.funs.length:Int):=by omega
 have hkc:(k:Int)≤(p.funC:Int):=by have:=h.caps.1; omega
 have hcl:∀ (j:Nat) (hj:j<f.code.length),∃ b off:Nat,f.codeA=some ⟨b,off,none⟩∧b<w.heap.size∧w.cell? ⟨b,off+j * 5,none⟩=some (.int .i64 f.code[j].op)∧w.cell? ⟨b,off+j * 5+1,none⟩=some (.int .i64 f.code[j].a) ∧
  w.cell? ⟨b,off+j * 5+2,none⟩=some (.int .i64 f.code[j].b)∧w.cell? ⟨b,off+j * 5+3,none⟩=some (.int .i64 f.code[j].c)∧w.cell? ⟨b,off+j * 5+4,none⟩=some (.slice f.code[j].argA f.code[j].args.length f.code[j].argC):=fun j hj=>h.ins hf hj
 have HCD:=hid hcl;have hval:p.val=.agg #[.slice (some ⟨b,off,none⟩) p.funs.length p.funC,.slice p.obA p.obs.length p.obC,.slice p.vrA p.vrs.length p.vrC]:=by rw [Prg.val,hA]
 rw [hval];have hT:=one_new w #[.slice (some ⟨b,off,none⟩) p.funs.length p.funC,.slice p.obA p.obs.length p.obC,.slice p.vrA p.vrs.length p.vrC] 26;unfold ckVal ckCells Ins.val Ins.cells at HIN;rw [hA] at HIN;clear hval hcl hcon hlk hfit hA h ho hB1 hB2 hB3 hB4 hB5 HV;go_enter Tryz.func83,Tryz.ntmps83;go_upto_region 1 with fail;have c0:=(hT.below.cell (p:=⟨b,off+k * 6,none⟩) hb).trans c0;have c1:=(hT.below.cell (p:=⟨b,off+k * 6+1,none⟩) hb).trans c1;have c2:=(hT.below.cell (p:=⟨b,off+k * 6+2,none⟩) hb).trans c2;have c3:=(hT.below.cell (p:=⟨b,off+k * 6+3,none⟩) hb).trans c3;have c4:=(hT.below.cell (p:=⟨b,off+k * 6+4,none⟩) hb).trans c4;have c5:=(hT.below.cell (p:=⟨b,off+k * 6+5,none⟩) hb).trans c5;generalize World.alloc w _=W0 at hT c0 c1 c2 c3 c4 c5 ⊢;obtain ⟨x0,x1,x2⟩:=bx3 hT.fst
 go_upto_region 2 with fail;have hF:=bx_new W0 #[.string f.name,.int .i64 f.params,.int .i64 f.regs,.int .i64 f.prio,.bool f.clean,.slice f.codeA f.code.length f.codeC] 60;have hT1:=hT.next (below_alloc W0 (.cells #[.string f.name,.int .i64 f.params,.int .i64 f.regs,.int .i64 f.prio,.bool f.clean,.slice f.codeA f.code.length f.codeC] 60));have hZ1:W0.heap.size<(World.alloc W0 (.cells #[.string f.name,.int .i64 f.params,.int .i64 f.regs,.int .i64 f.prio,.bool f.clean,.slice f.codeA f.code.length f.codeC] 60)).heap.size:=by simp
 generalize World.alloc W0 _=W1 at hF hT1 hZ1 ⊢;clear x0 x1 x2 c0 c1 c2 c3 c4 c5 hT;generalize W0.heap.size=G at hF hZ1 ⊢;obtain ⟨y0,y1,y2,y3,y4,y5⟩:=bx6 hF;rename_i K12 hK12 K2 hK2
 have key12:∀ (u10 u11 u12 u13 u14 u15 u16 u17 u18 u19 u20 u21 u22 u23 u24 u25 u26 u27 u28 u29 u30 u31 u32 u33 u34 u35 u36 u37 u38 u39 u40 u41 u42 u43 u44 u45 u46 u47 u48 u49 u50 u51 u52 u53 u54 u55 u56 u57 u58 u59 u60 u61 u62 u63 u64 u65 u66 u67 u68 u69 u70 u71:Value) (W6:World),One w W6 [.slice (some ⟨b,off,none⟩) p.funs.length p.funC,.slice p.obA p.obs.length p.obC,.slice p.vrA p.vrs.length p.vrC]→Bx W6 G [.string f.name,.int .i64 f.params,.int .i64 f.regs,.int .i64 f.prio,.bool f.clean,.slice f.codeA f.code.length f.codeC]→G<W6.heap.size→Hid (0≤f.regs∧f.regs≤32)→Hid (f.code.length≤200)→Hid ((∀ i∈f.code,insOk p f i)→V)→K12 ⟨#[.agg #[.slice (some ⟨b,off,none⟩) p.funs.length p.funC,.slice p.obA p.obs.length p.obC,.slice p.vrA p.vrs.length p.vrC],.int .i64 k,.pointer (some ⟨w.heap.size,0,none⟩),undef,.int .i64 0,.pointer (some ⟨G,0,none⟩),undef,undef,undef,undef,u10,u11,u12,u13,u14,u15,u16,u17,u18,u19,u20,u21,u22,u23,u24,u25,u26,u27,u28,u29,u30,u31,u32,u33,u34,u35,u36,u37,u38,u39,u40,u41,u42,u43,u44,u45,u46,u47,u48,u49,u50,u51,u52,u53,u54,u55,u56,u57,u58,u59,u60,u61,u62,u63,u64,u65,u66,u67,u68,u69,u70,u71,undef,undef,undef,undef,undef,undef,undef,undef,undef,undef,undef,undef,undef,undef,undef,undef,undef],[]⟩ W6:=by
  intro u10 u11 u12 u13 u14 u15 u16 u17 u18 u19 u20 u21 u22 u23 u24 u25 u26 u27 u28 u29 u30 u31 u32 u33 u34 u35 u36 u37 u38 u39 u40 u41 u42 u43 u44 u45 u46 u47 u48 u49 u50 u51 u52 u53 u54 u55 u56 u57 u58 u59 u60 u61 u62 u63 u64 u65 u66 u67 u68 u69 u70 u71 W6 hT6 hF6 hZ6 HR HQ7 HVK;refine hK12 _ _ ?_;clear hK12 hK2 y0 y1 y2 y3 y4 y5 hF hT1 hZ1;obtain ⟨x0,x1,x2⟩:=bx3 hT6.fst;obtain ⟨y0,y1,y2,y3,y4,y5⟩:=bx6 hF6;have g7a:decide ((200:Int)<(f.code.length:Int))=false:=decide_eq_false (by have:=HQ7.out; omega);go_upto_region 13 with fail;have hK:=bx_new W6 #[.slice (some ⟨b,off,none⟩) p.funs.length p.funC,.slice p.obA p.obs.length p.obC,.slice p.vrA p.vrs.length p.vrC,.string f.name,.int .i64 f.params,.int .i64 f.regs,.int .i64 f.prio,.bool f.clean,.slice f.codeA f.code.length f.codeC] 144
  have hT7:=hT6.next (below_alloc W6 (.cells #[.slice (some ⟨b,off,none⟩) p.funs.length p.funC,.slice p.obA p.obs.length p.obC,.slice p.vrA p.vrs.length p.vrC,.string f.name,.int .i64 f.params,.int .i64 f.regs,.int .i64 f.prio,.bool f.clean,.slice f.codeA f.code.length f.codeC] 144));have hF7:=hF6.below (below_alloc W6 (.cells #[.slice (some ⟨b,off,none⟩) p.funs.length p.funC,.slice p.obA p.obs.length p.obC,.slice p.vrA p.vrs.length p.vrC,.string f.name,.int .i64 f.params,.int .i64 f.regs,.int .i64 f.prio,.bool f.clean,.slice f.codeA f.code.length f.codeC] 144)) hZ6
  have hZ7:W6.heap.size<(World.alloc W6 (.cells #[.slice (some ⟨b,off,none⟩) p.funs.length p.funC,.slice p.obA p.obs.length p.obC,.slice p.vrA p.vrs.length p.vrC,.string f.name,.int .i64 f.params,.int .i64 f.regs,.int .i64 f.prio,.bool f.clean,.slice f.codeA f.code.length f.codeC] 144)).heap.size:=by simp
  generalize World.alloc W6 _=W7 at hK hT7 hF7 hZ7 ⊢;generalize W6.heap.size=Q at hK hZ6 hZ7 ⊢;clear x0 x1 x2 y0 y1 y2 y3 y4 y5 hF6 hT6;obtain ⟨y0,y1,y2,y3,y4,y5⟩:=bx6 hF7;go_upto_region 14 with fail;go_loopw [78] (fun k' wr=>∃ j:Nat,k'=.int .i64 j∧j≤f.code.length∧Hid (∀ i (hi:i<f.code.length),i<j→insOk p f f.code[i])∧One w wr [.slice (some ⟨b,off,none⟩) p.funs.length p.funC,.slice p.obA p.obs.length p.obC,.slice p.vrA p.vrs.length p.vrC]∧Bx wr Q [.slice (some ⟨b,off,none⟩) p.funs.length p.funC,.slice p.obA p.obs.length p.obC,.slice p.vrA p.vrs.length p.vrC,.string f.name,.int .i64 f.params,.int .i64 f.regs,.int .i64 f.prio,.bool f.clean,.slice f.codeA f.code.length f.codeC]∧Q<wr.heap.size) (fun k' _=>f.code.length - (intOf k').toNat)
  case atStart=>exact ⟨0,rfl,by omega,hid (fun i hi z=>by omega),hT7,hK,hZ7⟩
  case round=>
   obtain ⟨j,rfl,hj,HSO,hTr,hKr,hZr⟩:=hrel;clear y0 y1 y2 y3 y4 y5;obtain ⟨x0,x1,x2,x3,x4,x5,x6,x7,x8⟩:=bx9 hKr;have hj0:=zi j;have hwr1:IntKind.i64.wrap ((j:Int)+1)=(j:Int)+1:=by have:=HQ7.out; rw [IntKind.wrap_i64]; omega
   by_cases hlt:j<f.code.length
   ·have hd1:=Dt (show (j:Int)<f.code.length by omega)
    have hd2:=Dt hlt;have hjl2:(j:Int)<(f.code.length:Int):=by omega
    obtain ⟨b9,off9,hA9,hb9,d0,d1,d2,d3,d4⟩:=HCD.out j hlt;have q0:=(hTr.below.cell (p:=⟨b9,off9+j * 5,none⟩) hb9).trans d0;have q1:=(hTr.below.cell (p:=⟨b9,off9+j * 5+1,none⟩) hb9).trans d1;have q2:=(hTr.below.cell (p:=⟨b9,off9+j * 5+2,none⟩) hb9).trans d2;have q3:=(hTr.below.cell (p:=⟨b9,off9+j * 5+3,none⟩) hb9).trans d3;have q4:=(hTr.below.cell (p:=⟨b9,off9+j * 5+4,none⟩) hb9).trans d4;have hcall:=HIN.out HR.out j hlt
    have HNX:Hid (insOk p f f.code[j]→∀ i (hi:i<f.code.length),i<j+1→insOk p f f.code[i]):=hid (fun hh i hi z=>by
     by_cases e:i=j
     ·subst e; exact hh
     ·exact HSO.out i hi (by omega))
    have HBD:Hid (¬ insOk p f f.code[j]→¬ V):=hid (fun hh v=>hh ((HVI.out.1 v).2.2.2.2.2.2.2.2 _ (List.getElem_mem _)));generalize hcx:f.code[j]=x at q0 q1 q2 q3 q4 hcall HBD HNX;clear hcx;generalize insOk p f x=PX at hcall HBD HNX;rw [hA9] at hcall hKr;have HCALL:=hid hcall;clear hcall d0 d1 d2 d3 d4;simp only [hA9];clear hA9 x8;obtain ⟨-,-,-,-,-,-,-,-,x8⟩:=bx9 hKr;go_upto_region 16 with fail;have hB:=bx_new wr #[.int .i64 x.op,.int .i64 x.a,.int .i64 x.b,.int .i64 x.c,.slice x.argA x.args.length x.argC] 63;have hTb:=hTr.next (below_alloc wr (.cells #[.int .i64 x.op,.int .i64 x.a,.int .i64 x.b,.int .i64 x.c,.slice x.argA x.args.length x.argC] 63));have hKb:=hKr.below (below_alloc wr (.cells #[.int .i64 x.op,.int .i64 x.a,.int .i64 x.b,.int .i64 x.c,.slice x.argA x.args.length x.argC] 63)) hZr
    have hZb:wr.heap.size<(World.alloc wr (.cells #[.int .i64 x.op,.int .i64 x.a,.int .i64 x.b,.int .i64 x.c,.slice x.argA x.args.length x.argC] 63)).heap.size:=by simp
    generalize World.alloc wr _=Wb at hB hTb hKb hZb ⊢;generalize wr.heap.size=VV at hB hZb hZr ⊢;clear x0 x1 x2 x3 x4 x5 x6 x7 x8 hTr hKr q0 q1 q2 q3 q4;obtain ⟨x0,x1,x2,x3,x4,x5,x6,x7,x8⟩:=bx9 hKb;obtain ⟨z0,z1,z2,z3,z4⟩:=bx5 hB;go_wp2_with fail;refine (HCALL.out _ hTb.below).mono ?_;rintro e W9 ⟨nn,rfl,hnn,hb9⟩;have HNN:=hid hnn;have hT9:=hTb.next hb9;have hK9:=hKb.below hb9 (by omega);have hZ9:Q<W9.heap.size:=by have:=hb9.size; omega
    clear hb9 hnn;by_cases hn0:nn=0
    ·subst hn0
     have HS2:=hid (HNX.out (HNN.out.1 rfl));clear HNN HNX HBD;go_wp2_with fail;exact ⟨⟨j+1,by go_num,by omega,HS2,hT9,hK9,hZ9⟩,by simp [intOf]; omega⟩
    ·have en:(nn != 0)=true:=by simpa using hn0
     have HNO:=hid (HBD.out (fun hh=>hn0 (HNN.out.2 hh)));have HN0:=hid hn0;clear hn0 HNN HNX HBD;go_wp2_with fail;go_ret;exact retE_no HN0.out HNO.out hT9.below
   ·have hd1:=Df (show ¬ (j:Int)<f.code.length by omega)
    have hd2:=Df hlt
    have HY:=hid (HVK.out (fun i hi=>by
     obtain ⟨q,hq,rfl⟩:=List.mem_iff_getElem.1 hi;exact HSO.out q hq (by omega)))
    clear hlt hj HSO;go_wp2_with fail;go_ret;exact retE_ok HY.out hTr.below
 have HK12:=hid key12;clear hK12 key12;go_wp2_with fail;refine (HNM.out _).mono ?_;rintro e W2 ⟨rfl,hb2⟩;have hT2:=hT1.next hb2;have hF2:=hF.below hb2 hZ1;have hZ2:G<W2.heap.size:=by have:=hb2.size; omega
 clear y0 y1 y2 y3 y4 y5 hF hT1 hZ1;obtain ⟨x0,x1,x2⟩:=bx3 hT2.fst;obtain ⟨y0,y1,y2,y3,y4,y5⟩:=bx6 hF2
 cases B1 with
 | false=>
  have HNO:=hid (show ¬ V from fun v=>absurd (HVI.out.1 v).1 (by decide));go_wp2_with fail;go_ret;exact retE_no (by decide) HNO.out hT2.below
 | true=>
 go_wp2_with fail;refine (HCON.out _ _ hT2.below hZ2 y0).mono ?_;rintro e W3 ⟨rfl,hb3⟩;have hT3:=hT2.next hb3;have hF3:=hF2.below hb3 hZ2;have hZ3:G<W3.heap.size:=by have:=hb3.size; omega
 clear x0 x1 x2 y0 y1 y2 y3 y4 y5 hF2 hT2 hZ2;obtain ⟨x0,x1,x2⟩:=bx3 hT3.fst;obtain ⟨y0,y1,y2,y3,y4,y5⟩:=bx6 hF3
 cases B2 with
 | true=>
  have HNO:=hid (show ¬ V from fun v=>absurd (HVI.out.1 v).2.1 (by decide));go_wp2_with fail;go_ret;exact retE_no (by decide) HNO.out hT3.below
 | false=>
 go_wp2_with fail;refine (HW1.out _).mono ?_;rintro e W4 ⟨rfl,hb4⟩;have hT4:=hT3.next hb4;have hF4:=hF3.below hb4 hZ3;have hZ4:G<W4.heap.size:=by have:=hb4.size; omega
 clear x0 x1 x2 y0 y1 y2 y3 y4 y5 hF3 hT3 hZ3;obtain ⟨x0,x1,x2⟩:=bx3 hT4.fst;obtain ⟨y0,y1,y2,y3,y4,y5⟩:=bx6 hF4
 cases B3 with
 | false=>
  have HNO:=hid (show ¬ V from fun v=>absurd (HVI.out.1 v).2.2.1 (by decide));go_wp2_with fail;go_ret;exact retE_no (by decide) HNO.out hT4.below
 | true=>
 go_wp2_with fail;refine (HW2.out _).mono ?_;rintro e W5 ⟨rfl,hb5⟩;have hT5:=hT4.next hb5;have hF5:=hF4.below hb5 hZ4;have hZ5:G<W5.heap.size:=by have:=hb5.size; omega
 clear x0 x1 x2 y0 y1 y2 y3 y4 y5 hF4 hT4 hZ4;obtain ⟨x0,x1,x2⟩:=bx3 hT5.fst;obtain ⟨y0,y1,y2,y3,y4,y5⟩:=bx6 hF5
 cases B4 with
 | false=>
  have HNO:=hid (show ¬ V from fun v=>absurd (HVI.out.1 v).2.2.2.1 (by decide));go_wp2_with fail;go_ret;exact retE_no (by decide) HNO.out hT5.below
 | true=>
 go_wp2_with fail;refine (HW3.out _).mono ?_;rintro e W6 ⟨rfl,hb6⟩;have hT6:=hT5.next hb6;have hF6:=hF5.below hb6 hZ5;have hZ6:G<W6.heap.size:=by have:=hb6.size; omega
 clear x0 x1 x2 y0 y1 y2 y3 y4 y5 hF5 hT5 hZ5;obtain ⟨x0,x1,x2⟩:=bx3 hT6.fst;obtain ⟨y0,y1,y2,y3,y4,y5⟩:=bx6 hF6
 cases B5 with
 | false=>
  have HNO:=hid (show ¬ V from fun v=>absurd (HVI.out.1 v).2.2.2.2.1 (by decide));go_wp2_with fail;go_ret;exact retE_no (by decide) HNO.out hT6.below
 | true=>
 have HR:=hid (HRG.out (by first | rfl | exact True.intro) (by first | rfl | exact True.intro));clear HRG;rcases Bool.eq_false_or_eq_true f.clean with hcl | hcl
 ·rw [hcl] at y4
  have HCL:=hid hcl;by_cases hp9:f.prio=0;rotate_left
  ·have g1:(f.prio != 0)=true:=by simpa using hp9
   have HNO:=hid (show ¬ V from fun v=>(HVI.out.1 v).2.2.2.2.2.1 ⟨hcl,hp9⟩);clear hp9 hcl;go_wp2_with fail;go_ret;exact retE_no (by decide) HNO.out hT6.below
  have g1:(f.prio != 0)=false:=by rw [hp9]; rfl
  have HQ6:=hid (show ¬ (f.clean=true∧f.prio≠0) from fun z=>z.2 hp9);clear hp9 hcl;by_cases h7:f.code.length≤200;rotate_left
  ·have g7a:=Dt (show (200:Int)<f.code.length by omega)
   have g7b:=Dt (show 200<f.code.length by omega);have HNO:=hid (show ¬ V from fun v=>h7 (HVI.out.1 v).2.2.2.2.2.2.1);clear h7;go_wp2_with fail;go_ret;exact retE_no (by decide) HNO.out hT6.below
  have g7a:=Df (show ¬ (200:Int)<f.code.length by omega);have g7b:=Df (show ¬ (200<f.code.length) by omega);have HQ7:=hid h7;clear h7;by_cases hk9:k=0
  ·have g2:((k:Int) == 0)=true:=by simp; omega
   have g3:(k == 0)=true:=by simp; omega
   have HNO:=hid (show ¬ V from fun v=>by have:=((HVI.out.1 v).2.2.2.2.2.2.2.1 hk9).2; rw [HCL.out] at this; cases this);clear hk9;by_cases hpp:0<f.params
   ·have g1:decide ((0:Int)<f.params)=true:=decide_eq_true hpp
    clear hpp;go_wp2_with fail;go_ret;exact retE_no (by decide) HNO.out hT6.below
   ·have g1:decide ((0:Int)<f.params)=false:=decide_eq_false hpp
    clear hpp;go_wp2_with fail;go_ret;exact retE_no (by decide) HNO.out hT6.below
  ·have g2:((k:Int) == 0)=false:=by simp; omega
   have g3:(k == 0)=false:=by simp; omega
   have HQ8:=hid (show k=0→f.params=0∧f.clean=false from fun z=>absurd z hk9);clear hk9;have HVK:=hid (show (∀ i∈f.code,insOk p f i)→V from fun hh=>HVI.out.2 ⟨by first | rfl | exact True.intro,by first | rfl | exact True.intro,by first | rfl | exact True.intro,by first | rfl | exact True.intro,by first | rfl | exact True.intro,HQ6.out,HQ7.out,HQ8.out,hh⟩);go_wp2_with fail;exact HK12.out _ _ _ _ _ _ _ _ _ _ _ _ _ _ _ _ _ _ _ _ _ _ _ _ _ _ _ _ _ _ _ _ _ _ _ _ _ _ _ _ _ _ _ _ _ _ _ _ _ _ _ _ _ _ _ _ _ _ _ _ _ _ W6 hT6 hF6 hZ6 HR HQ7 HVK
 ·rw [hcl] at y4
  have HCL:=hid hcl;have HQ6:=hid (show ¬ (f.clean=true∧f.prio≠0) from fun z=>by rw [hcl] at z; cases z.1);clear hcl;by_cases h7:f.code.length≤200;rotate_left
  ·have g7a:=Dt (show (200:Int)<f.code.length by omega)
   have g7b:=Dt (show 200<f.code.length by omega);have HNO:=hid (show ¬ V from fun v=>h7 (HVI.out.1 v).2.2.2.2.2.2.1);clear h7;go_wp2_with fail;go_ret;exact retE_no (by decide) HNO.out hT6.below
  have g7a:=Df (show ¬ (200:Int)<f.code.length by omega);have g7b:=Df (show ¬ (200<f.code.length) by omega);have HQ7:=hid h7;clear h7;by_cases hk9:k=0
  ·have g2:((k:Int) == 0)=true:=by simp; omega
   have g3:(k == 0)=true:=by simp; omega
   by_cases hpp:0<f.params
   ·have g1:decide ((0:Int)<f.params)=true:=decide_eq_true hpp
    have HNO:=hid (show ¬ V from fun v=>by have:=((HVI.out.1 v).2.2.2.2.2.2.2.1 hk9).1; omega);clear hpp hk9;go_wp2_with fail;go_ret;exact retE_no (by decide) HNO.out hT6.below
   ·have g1:decide ((0:Int)<f.params)=false:=decide_eq_false hpp
    have HQ8:=hid (show k=0→f.params=0∧f.clean=false from fun _=>⟨by have:=HP0.out (by first | rfl | exact True.intro); omega,HCL.out⟩);clear hpp hk9;have HVK:=hid (show (∀ i∈f.code,insOk p f i)→V from fun hh=>HVI.out.2 ⟨by first | rfl | exact True.intro,by first | rfl | exact True.intro,by first | rfl | exact True.intro,by first | rfl | exact True.intro,by first | rfl | exact True.intro,HQ6.out,HQ7.out,HQ8.out,hh⟩);go_wp2_with fail;exact HK12.out _ _ _ _ _ _ _ _ _ _ _ _ _ _ _ _ _ _ _ _ _ _ _ _ _ _ _ _ _ _ _ _ _ _ _ _ _ _ _ _ _ _ _ _ _ _ _ _ _ _ _ _ _ _ _ _ _ _ _ _ _ _ W6 hT6 hF6 hZ6 HR HQ7 HVK
  ·have g2:((k:Int) == 0)=false:=by simp; omega
   have g3:(k == 0)=false:=by simp; omega
   have HQ8:=hid (show k=0→f.params=0∧f.clean=false from fun z=>absurd z hk9);clear hk9;have HVK:=hid (show (∀ i∈f.code,insOk p f i)→V from fun hh=>HVI.out.2 ⟨by first | rfl | exact True.intro,by first | rfl | exact True.intro,by first | rfl | exact True.intro,by first | rfl | exact True.intro,by first | rfl | exact True.intro,HQ6.out,HQ7.out,HQ8.out,hh⟩);go_wp2_with fail;exact HK12.out _ _ _ _ _ _ _ _ _ _ _ _ _ _ _ _ _ _ _ _ _ _ _ _ _ _ _ _ _ _ _ _ _ _ _ _ _ _ _ _ _ _ _ _ _ _ _ _ _ _ _ _ _ _ _ _ _ _ _ _ _ _ W6 hT6 hF6 hZ6 HR HQ7 HVK
end Go.Proofs.YtkpjdanfpolimaaGreat
