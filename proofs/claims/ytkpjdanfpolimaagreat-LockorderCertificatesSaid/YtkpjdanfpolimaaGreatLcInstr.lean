/- The checker's instr, walked: an error number comes back, none exactly if the instruction is valid. Conditions: the program lies in memory. -/
import Derived.Test.YtkpjdanfpolimaaGreatLcCases
import Derived.Test.YtkpjdanfpolimaaGreatLcRins
import Derived.Deep.CutRange
set_option linter.unusedSimpArgs false
set_option maxRecDepth 100000
set_option maxHeartbeats 6400000
namespace Go.Proofs.YtkpjdanfpolimaaGreat
open Go.RowKit Go.Shelf
def I64 (n:Int):Prop:=-9223372036854775808≤n∧n≤9223372036854775807
theorem roleRel_le:∀ x∈roleRel,x.2.1≤12:=by decide
theorem roleArg_le:∀ x∈roleArg,x.2≤3:=by decide
theorem shape_parts (op:Int):shapeF op=none∨∃ (n0 n1 n2 g:Nat) (k0 k1 k2:Int),shapeF op=some [(n0:Int),k0,n1,k1,n2,k2,g]∧n0≤12∧n1≤12∧n2≤12∧g≤3∧(g=1→n1=8∨n1=9):=by
 have htab:=tabOk_all op;unfold tabOk at htab
 cases hs:shapeF op with
 | none=>exact .inl rfl
 | some l=>
  right;rw [hs] at htab;dsimp only at htab;split at htab
  ·rename_i w0 k0 w1 k1 w2 k2 g r0 r1 r2 r3 e
   simp only [Bool.and_eq_true,decide_eq_true_eq] at htab;obtain ⟨⟨⟨⟨⟨⟨⟨⟨⟨t0,t1⟩,t2⟩,t3⟩,t4⟩,t5⟩,t6⟩,t7⟩,t8⟩,t9⟩:=htab;refine ⟨w0.toNat,w1.toNat,w2.toNat,g.toNat,k0,k1,k2,?_,roleRel_le _ t0,roleRel_le _ t1,roleRel_le _ t2,roleArg_le _ t3,?_⟩
   ·rw [Int.toNat_of_nonneg t4,Int.toNat_of_nonneg t5,Int.toNat_of_nonneg t6,Int.toNat_of_nonneg t7]
   ·intro hg
    simp only [Bool.or_eq_true,Bool.not_eq_true',decide_eq_false_iff_not,decide_eq_true_eq] at t9;omega
  ·cases htab
theorem insOk_none {p:Prg} {f:Fn} {i:Ins} (h:shapeF i.op=none):¬ insOk p f i:=by
 rintro ⟨w0,k0,w1,k1,w2,k2,g,hs,-⟩;rw [h] at hs;cases hs
theorem insOk_iff {p:Prg} {f:Fn} {i:Ins} {n0 n1 n2 g:Nat} {k0 k1 k2:Int} (h:shapeF i.op=some [(n0:Int),k0,n1,k1,n2,k2,g]) :
  insOk p f i↔(f.clean=true→i.op∉forbL)∧opOk p f n0 k0 i.a∧opOk p f n1 k1 i.b∧opOk p f n2 k2 i.c∧argsOk p f g i∧cflOk i:=by
 constructor
 ·rintro ⟨w0,a0,w1,a1,w2,a2,gg,e,r⟩
  rw [h] at e;simp only [Option.some.injEq,List.cons.injEq,and_true] at e;obtain ⟨rfl,rfl,rfl,rfl,rfl,rfl,rfl⟩:=e;exact r
 ·intro r
  exact ⟨n0,k0,n1,k1,n2,k2,g,h,r⟩
theorem bx7 {W:World} {g:Nat} {a b c d e f h:Value} (hb:Bx W g [a,b,c,d,e,f,h]):W.cell? ⟨g,0,none⟩=some a∧W.cell? ⟨g,1,none⟩=some b∧W.cell? ⟨g,2,none⟩=some c∧W.cell? ⟨g,3,none⟩=some d∧W.cell? ⟨g,4,none⟩=some e∧W.cell? ⟨g,5,none⟩=some f∧W.cell? ⟨g,6,none⟩=some h:=
 ⟨hb 0 _ rfl,hb 1 _ rfl,hb 2 _ rfl,hb 3 _ rfl,hb 4 _ rfl,hb 5 _ rfl,hb 6 _ rfl⟩
structure InR (w:World) (ck ins sh os bx:List Value) (G Q V:Nat) (W:World):Prop where
 two:Two w W ck ins
 sh:Bx W G sh
 os:Bx W Q os
 bx:Bx W V bx
 le:G<Q∧Q<V∧V<W.heap.size
theorem InR.next {w:World} {ck ins sh os bx:List Value} {G Q V:Nat} {W W':World} (h:InR w ck ins sh os bx G Q V W) (hb:Below W.heap.size W W'):InR w ck ins sh os bx G Q V W':=
 ⟨h.two.next hb,h.sh.below hb (by have:=h.le; omega),h.os.below hb (by have:=h.le; omega),h.bx.below hb h.le.2.2,h.le.1,h.le.2.1,by have:=h.le; have:=hb.size; omega⟩
section
variable {p:Prg} {f:Fn} {w W W':World} {cl:Bool} {op a b c n k:Int} {argA:Option Addr} {N argC:Nat} {sh os:List Value} {G Q V:Nat}
theorem inr_cells (h:InR w [.slice p.funA p.funs.length p.funC,.slice p.obA p.obs.length p.obC,.slice p.vrA p.vrs.length p.vrC,.string f.name,.int .i64 f.params,.int .i64 f.regs,.int .i64 f.prio,.bool cl,.slice f.codeA f.code.length f.codeC] [.int .i64 op,.int .i64 a,.int .i64 b,.int .i64 c,.slice argA N argC] sh os [.int .i64 n,.int .i64 k] G Q V W):(W.cell? ⟨w.heap.size,0,none⟩=some (.slice p.funA p.funs.length p.funC)∧W.cell? ⟨w.heap.size,1,none⟩=some (.slice p.obA p.obs.length p.obC)∧W.cell? ⟨w.heap.size,2,none⟩=some (.slice p.vrA p.vrs.length p.vrC)∧W.cell? ⟨w.heap.size,3,none⟩=some (.string f.name)∧W.cell? ⟨w.heap.size,4,none⟩=some (.int .i64 f.params)∧W.cell? ⟨w.heap.size,5,none⟩=some (.int .i64 f.regs)∧W.cell? ⟨w.heap.size,6,none⟩=some (.int .i64 f.prio)∧W.cell? ⟨w.heap.size,7,none⟩=some (.bool cl)∧W.cell? ⟨w.heap.size,8,none⟩=some (.slice f.codeA f.code.length f.codeC)∧W.cell? ⟨w.heap.size+1,1,none⟩=some (.int .i64 a)∧W.cell? ⟨w.heap.size+1,2,none⟩=some (.int .i64 b)∧W.cell? ⟨w.heap.size+1,3,none⟩=some (.int .i64 c)∧W.cell? ⟨V,0,none⟩=some (.int .i64 n)∧W.cell? ⟨V,1,none⟩=some (.int .i64 k))∧InR w [.slice p.funA p.funs.length p.funC,.slice p.obA p.obs.length p.obC,.slice p.vrA p.vrs.length p.vrC,.string f.name,.int .i64 f.params,.int .i64 f.regs,.int .i64 f.prio,.bool cl,.slice f.codeA f.code.length f.codeC] [.int .i64 op,.int .i64 a,.int .i64 b,.int .i64 c,.slice argA N argC] sh os [.int .i64 n,.int .i64 k] G Q V W:=by
 obtain ⟨x0,x1,x2,x3,x4,x5,x6,x7,x8⟩:=bx9 h.two.fst;obtain ⟨z0,z1,z2,z3,z4⟩:=bx5 h.two.snd;obtain ⟨b0,b1⟩:=bx2 h.bx;exact ⟨⟨x0,x1,x2,x3,x4,x5,x6,x7,x8,z1,z2,z3,b0,b1⟩,h⟩
theorem inr_alloc (h:(W.cell? ⟨w.heap.size,0,none⟩=some (.slice p.funA p.funs.length p.funC)∧W.cell? ⟨w.heap.size,1,none⟩=some (.slice p.obA p.obs.length p.obC)∧W.cell? ⟨w.heap.size,2,none⟩=some (.slice p.vrA p.vrs.length p.vrC)∧W.cell? ⟨w.heap.size,3,none⟩=some (.string f.name)∧W.cell? ⟨w.heap.size,4,none⟩=some (.int .i64 f.params)∧W.cell? ⟨w.heap.size,5,none⟩=some (.int .i64 f.regs)∧W.cell? ⟨w.heap.size,6,none⟩=some (.int .i64 f.prio)∧W.cell? ⟨w.heap.size,7,none⟩=some (.bool cl)∧W.cell? ⟨w.heap.size,8,none⟩=some (.slice f.codeA f.code.length f.codeC)∧W.cell? ⟨w.heap.size+1,1,none⟩=some (.int .i64 a)∧W.cell? ⟨w.heap.size+1,2,none⟩=some (.int .i64 b)∧W.cell? ⟨w.heap.size+1,3,none⟩=some (.int .i64 c)∧W.cell? ⟨V,0,none⟩=some (.int .i64 n)∧W.cell? ⟨V,1,none⟩=some (.int .i64 k))∧InR w [.slice p.funA p.funs.length p.funC,.slice p.obA p.obs.length p.obC,.slice p.vrA p.vrs.length p.vrC,.string f.name,.int .i64 f.params,.int .i64 f.regs,.int .i64 f.prio,.bool cl,.slice f.codeA f.code.length f.codeC] [.int .i64 op,.int .i64 a,.int .i64 b,.int .i64 c,.slice argA N argC] sh os [.int .i64 n,.int .i64 k] G Q V W) (o:Obj):((W.alloc o).cell? ⟨w.heap.size,0,none⟩=some (.slice p.funA p.funs.length p.funC)∧(W.alloc o).cell? ⟨w.heap.size,1,none⟩=some (.slice p.obA p.obs.length p.obC)∧(W.alloc o).cell? ⟨w.heap.size,2,none⟩=some (.slice p.vrA p.vrs.length p.vrC)∧(W.alloc o).cell? ⟨w.heap.size,3,none⟩=some (.string f.name)∧(W.alloc o).cell? ⟨w.heap.size,4,none⟩=some (.int .i64 f.params)∧(W.alloc o).cell? ⟨w.heap.size,5,none⟩=some (.int .i64 f.regs)∧(W.alloc o).cell? ⟨w.heap.size,6,none⟩=some (.int .i64 f.prio)∧(W.alloc o).cell? ⟨w.heap.size,7,none⟩=some (.bool cl)∧(W.alloc o).cell? ⟨w.heap.size,8,none⟩=some (.slice f.codeA f.code.length f.codeC)∧(W.alloc o).cell? ⟨w.heap.size+1,1,none⟩=some (.int .i64 a)∧(W.alloc o).cell? ⟨w.heap.size+1,2,none⟩=some (.int .i64 b)∧(W.alloc o).cell? ⟨w.heap.size+1,3,none⟩=some (.int .i64 c)∧(W.alloc o).cell? ⟨V,0,none⟩=some (.int .i64 n)∧(W.alloc o).cell? ⟨V,1,none⟩=some (.int .i64 k))∧InR w [.slice p.funA p.funs.length p.funC,.slice p.obA p.obs.length p.obC,.slice p.vrA p.vrs.length p.vrC,.string f.name,.int .i64 f.params,.int .i64 f.regs,.int .i64 f.prio,.bool cl,.slice f.codeA f.code.length f.codeC] [.int .i64 op,.int .i64 a,.int .i64 b,.int .i64 c,.slice argA N argC] sh os [.int .i64 n,.int .i64 k] G Q V (W.alloc o):=inr_cells (h.2.next (below_alloc _ _))
theorem inr_below (h:(W.cell? ⟨w.heap.size,0,none⟩=some (.slice p.funA p.funs.length p.funC)∧W.cell? ⟨w.heap.size,1,none⟩=some (.slice p.obA p.obs.length p.obC)∧W.cell? ⟨w.heap.size,2,none⟩=some (.slice p.vrA p.vrs.length p.vrC)∧W.cell? ⟨w.heap.size,3,none⟩=some (.string f.name)∧W.cell? ⟨w.heap.size,4,none⟩=some (.int .i64 f.params)∧W.cell? ⟨w.heap.size,5,none⟩=some (.int .i64 f.regs)∧W.cell? ⟨w.heap.size,6,none⟩=some (.int .i64 f.prio)∧W.cell? ⟨w.heap.size,7,none⟩=some (.bool cl)∧W.cell? ⟨w.heap.size,8,none⟩=some (.slice f.codeA f.code.length f.codeC)∧W.cell? ⟨w.heap.size+1,1,none⟩=some (.int .i64 a)∧W.cell? ⟨w.heap.size+1,2,none⟩=some (.int .i64 b)∧W.cell? ⟨w.heap.size+1,3,none⟩=some (.int .i64 c)∧W.cell? ⟨V,0,none⟩=some (.int .i64 n)∧W.cell? ⟨V,1,none⟩=some (.int .i64 k))∧InR w [.slice p.funA p.funs.length p.funC,.slice p.obA p.obs.length p.obC,.slice p.vrA p.vrs.length p.vrC,.string f.name,.int .i64 f.params,.int .i64 f.regs,.int .i64 f.prio,.bool cl,.slice f.codeA f.code.length f.codeC] [.int .i64 op,.int .i64 a,.int .i64 b,.int .i64 c,.slice argA N argC] sh os [.int .i64 n,.int .i64 k] G Q V W) (hb:Below W.heap.size W W'):(W'.cell? ⟨w.heap.size,0,none⟩=some (.slice p.funA p.funs.length p.funC)∧W'.cell? ⟨w.heap.size,1,none⟩=some (.slice p.obA p.obs.length p.obC)∧W'.cell? ⟨w.heap.size,2,none⟩=some (.slice p.vrA p.vrs.length p.vrC)∧W'.cell? ⟨w.heap.size,3,none⟩=some (.string f.name)∧W'.cell? ⟨w.heap.size,4,none⟩=some (.int .i64 f.params)∧W'.cell? ⟨w.heap.size,5,none⟩=some (.int .i64 f.regs)∧W'.cell? ⟨w.heap.size,6,none⟩=some (.int .i64 f.prio)∧W'.cell? ⟨w.heap.size,7,none⟩=some (.bool cl)∧W'.cell? ⟨w.heap.size,8,none⟩=some (.slice f.codeA f.code.length f.codeC)∧W'.cell? ⟨w.heap.size+1,1,none⟩=some (.int .i64 a)∧W'.cell? ⟨w.heap.size+1,2,none⟩=some (.int .i64 b)∧W'.cell? ⟨w.heap.size+1,3,none⟩=some (.int .i64 c)∧W'.cell? ⟨V,0,none⟩=some (.int .i64 n)∧W'.cell? ⟨V,1,none⟩=some (.int .i64 k))∧InR w [.slice p.funA p.funs.length p.funC,.slice p.obA p.obs.length p.obC,.slice p.vrA p.vrs.length p.vrC,.string f.name,.int .i64 f.params,.int .i64 f.regs,.int .i64 f.prio,.bool cl,.slice f.codeA f.code.length f.codeC] [.int .i64 op,.int .i64 a,.int .i64 b,.int .i64 c,.slice argA N argC] sh os [.int .i64 n,.int .i64 k] G Q V W':=inr_cells (h.2.next hb)
end
theorem instr_any (p:Prg) (f:Fn) (hf:f∈p.funs) (i:Ins) (hal:i.args.length≤maxLen) (hcap:i.args.length≤i.argC) (hr:0≤f.regs∧f.regs≤32) (hia:I64 i.a) (hib:I64 i.b) (hic:I64 i.c) (hfit:∀ x∈i.args,I64 x) (w:World) (h:Lies w w.heap.size p) (ha:Rd w w.heap.size 1 i.argA i.args.length (i64s i.args)) :
  Calls Tryz.prog 110 #[ckVal p f,i.val] w (RetE (insOk p f i) w):=by
 obtain ⟨V,hV⟩:∃ V,V=insOk p f i:=⟨_,rfl⟩
 rw [← hV];rcases shape_parts i.op with hs | ⟨n0,n1,n2,g,k0,k1,k2,hs,b0,b1,b2,bg,og⟩
 ·have HNO:=hid (show ¬ V from fun v=>insOk_none hs ((iff_of_eq hV).1 v))
  have hsh:∀ W,Calls Tryz.prog 124 #[.int .i64 i.op] W (Ret (.tuple #[.agg #[.int .i64 0,.int .i64 0,.int .i64 0,.int .i64 0,.int .i64 0,.int .i64 0,.int .i64 0],.bool false]) W):=fun W=>by
   have:=shape_any i.op W;rw [hs] at this;exact this
  have HSH:=hid hsh;clear hsh hs hV hal hcap hr hia hib hic hfit h ha hf;obtain ⟨op,a,b,c,args,argA,argC⟩:=i;unfold ckVal ckCells Ins.val Ins.cells at *;dsimp only at HSH ⊢;generalize args.length=N at ⊢;have hT:=two_new w #[.slice p.funA p.funs.length p.funC,.slice p.obA p.obs.length p.obC,.slice p.vrA p.vrs.length p.vrC,.string f.name,.int .i64 f.params,.int .i64 f.regs,.int .i64 f.prio,.bool f.clean,.slice f.codeA f.code.length f.codeC] #[.int .i64 op,.int .i64 a,.int .i64 b,.int .i64 c,.slice argA N argC] 144 63;go_enter Tryz.func110,Tryz.ntmps110;go_wp2_with fail;generalize World.alloc (World.alloc w _) _=W1 at hT ⊢;refine (HSH.out _).mono ?_;rintro e W2 ⟨rfl,hb2⟩;have hT2:=hT.next hb2;have hT3:=hT2.next (below_alloc W2 (.cells #[.int .i64 0,.int .i64 0,.int .i64 0,.int .i64 0,.int .i64 0,.int .i64 0,.int .i64 0] 162));clear hT hT2
  go_wp2_with fail;go_ret;exact retE_no (by decide) HNO.out hT3.below
 have HVI:=hid ((iff_of_eq hV).trans (insOk_iff hs))
 have hsh:∀ W,Calls Tryz.prog 124 #[.int .i64 i.op] W (Ret (.tuple #[.agg #[.int .i64 n0,.int .i64 k0,.int .i64 n1,.int .i64 k1,.int .i64 n2,.int .i64 k2,.int .i64 g],.bool true]) W):=fun W=>by
  have:=shape_any i.op W;rw [hs] at this;exact this
 have HSH:=hid hsh;have HO0:=hid (fun (W:World) (hb:Below w.heap.size w W)=>opd_any p f hf n0 b0 i.a k0 hia hr W (h.next hb));have HO1:=hid (fun (W:World) (hb:Below w.heap.size w W)=>opd_any p f hf n1 b1 i.b k1 hib hr W (h.next hb));have HO2:=hid (fun (W:World) (hb:Below w.heap.size w W)=>opd_any p f hf n2 b2 i.c k2 hic hr W (h.next hb));have HAR:=hid (fun (o1:opOk p f n1 k1 i.b) (W:World) (hb:Below w.heap.size w W)=>args_any p f hf g bg i hal hcap hr hfit (fun e=>opOk_fun o1 (og e)) W (h.next hb) ((ha.below hb).more hb.size));obtain ⟨P0,hP0⟩:∃ P,opOk p f n0 k0 i.a=P:=⟨_,rfl⟩
 obtain ⟨P1,hP1⟩:∃ P,opOk p f n1 k1 i.b=P:=⟨_,rfl⟩
 obtain ⟨P2,hP2⟩:∃ P,opOk p f n2 k2 i.c=P:=⟨_,rfl⟩
 obtain ⟨PA,hPA⟩:∃ P,argsOk p f g i=P:=⟨_,rfl⟩
 rw [hP0,hP1,hP2,hPA] at HVI;rw [hP0] at HO0;rw [hP1] at HO1;rw [hP2] at HO2;rw [hP1,hPA] at HAR;have HNF:=hid (show (f.clean=true∧i.op∈forbL)→¬ V from fun z v=>(HVI.out.1 v).1 z.1 z.2);clear hsh hs hV b0 b1 b2 bg og hal hcap hr hia hib hic hfit h ha hf hP0 hP1 hP2 hPA;obtain ⟨op,a,b,c,args,argA,argC⟩:=i;unfold ckVal ckCells at HO0 HO1 HO2 HAR ⊢;unfold Ins.val Ins.cells at HAR ⊢;unfold cflOk at HVI;dsimp only at HO0 HO1 HO2 HAR HVI HNF HSH ⊢;generalize args.length=N at HAR ⊢;have hT:=two_new w #[.slice p.funA p.funs.length p.funC,.slice p.obA p.obs.length p.obC,.slice p.vrA p.vrs.length p.vrC,.string f.name,.int .i64 f.params,.int .i64 f.regs,.int .i64 f.prio,.bool f.clean,.slice f.codeA f.code.length f.codeC] #[.int .i64 op,.int .i64 a,.int .i64 b,.int .i64 c,.slice argA N argC] 144 63;go_enter Tryz.func110,Tryz.ntmps110
 go_wp2_with fail;generalize World.alloc (World.alloc w _) _=W1 at hT ⊢;refine (HSH.out _).mono ?_;rintro e W2 ⟨rfl,hb2⟩;have hT2:=hT.next hb2;go_upto_region 4 with fail;have hF:=bx_new W2 #[.int .i64 n0,.int .i64 k0,.int .i64 n1,.int .i64 k1,.int .i64 n2,.int .i64 k2,.int .i64 g] 162;have hT3:=hT2.next (below_alloc W2 (.cells #[.int .i64 n0,.int .i64 k0,.int .i64 n1,.int .i64 k1,.int .i64 n2,.int .i64 k2,.int .i64 g] 162));have hZ3:W2.heap.size<(World.alloc W2 (.cells #[.int .i64 n0,.int .i64 k0,.int .i64 n1,.int .i64 k1,.int .i64 n2,.int .i64 k2,.int .i64 g] 162)).heap.size:=by simp
 have hZ2:=hT2.size;generalize World.alloc W2 _=W3 at hF hT3 hZ3 ⊢;clear hT hT2;generalize W2.heap.size=G at hF hZ3 hZ2 ⊢;obtain ⟨x0,x1,x2,x3,x4,x5,x6,x7,x8⟩:=bx9 hT3.fst;obtain ⟨z0,z1,z2,z3,z4⟩:=bx5 hT3.snd;obtain ⟨s0,s1,s2,s3,s4,s5,s6⟩:=bx7 hF;rename_i K6 hK6 K5 hK5
 have key6:∀ (u11 u12 u13 u14 u15 u16 u17 u18 u19 u20 u21 u22 u23 u24 u25 u26:Value) (W4:World),Two w W4 [.slice p.funA p.funs.length p.funC,.slice p.obA p.obs.length p.obC,.slice p.vrA p.vrs.length p.vrC,.string f.name,.int .i64 f.params,.int .i64 f.regs,.int .i64 f.prio,.bool f.clean,.slice f.codeA f.code.length f.codeC] [.int .i64 op,.int .i64 a,.int .i64 b,.int .i64 c,.slice argA N argC]→Bx W4 G [.int .i64 n0,.int .i64 k0,.int .i64 n1,.int .i64 k1,.int .i64 n2,.int .i64 k2,.int .i64 g]→G<W4.heap.size→Hid (f.clean=true→op∉forbL)→K6 ⟨#[.agg #[.slice p.funA p.funs.length p.funC,.slice p.obA p.obs.length p.obC,.slice p.vrA p.vrs.length p.vrC,.string f.name,.int .i64 f.params,.int .i64 f.regs,.int .i64 f.prio,.bool f.clean,.slice f.codeA f.code.length f.codeC],.agg #[.int .i64 op,.int .i64 a,.int .i64 b,.int .i64 c,.slice argA N argC],.pointer (some ⟨w.heap.size,0,none⟩),.pointer (some ⟨w.heap.size+1,0,none⟩),.int .i64 0,.pointer (some ⟨G,0,none⟩),.bool true,undef,undef,undef,undef,u11,u12,u13,u14,u15,u16,u17,u18,u19,u20,u21,u22,u23,u24,u25,u26,undef,undef,undef,undef,undef,undef,undef,undef,undef,undef,undef,undef,undef,undef,undef,undef,undef,undef,undef,undef,undef,undef,undef,undef,undef,undef,undef,undef,undef,undef,undef,undef,undef,undef,undef,undef,undef,undef,undef,undef,undef,undef,undef,undef,undef,undef,undef,undef,undef,undef,undef,undef,undef,undef,undef,undef,undef,undef,undef,undef,undef,undef,undef,undef,undef,undef,undef,undef,undef,undef,undef,undef,undef,undef],[]⟩ W4:=by
  intro u11 u12 u13 u14 u15 u16 u17 u18 u19 u20 u21 u22 u23 u24 u25 u26 W4 hT4 hF4 hZ4 HFC;refine hK6 _ _ ?_;clear hK6 hK5 hF hT3 hZ3 x0 x1 x2 x3 x4 x5 x6 x7 x8 z0 z1 z2 z3 z4 s0 s1 s2 s3 s4 s5 s6;go_upto_region 6 with fail;obtain ⟨s0,s1,s2,s3,s4,s5,s6⟩:=bx7 hF4;go_upto_region 7 with fail;have hO:=bx_new W4 #[.int .i64 n0,.int .i64 k0,.int .i64 n1,.int .i64 k1,.int .i64 n2,.int .i64 k2] 160;have hT5:=hT4.next (below_alloc W4 (.cells #[.int .i64 n0,.int .i64 k0,.int .i64 n1,.int .i64 k1,.int .i64 n2,.int .i64 k2] 160));have hF5:=hF4.below (below_alloc W4 (.cells #[.int .i64 n0,.int .i64 k0,.int .i64 n1,.int .i64 k1,.int .i64 n2,.int .i64 k2] 160)) hZ4;have hZ5:W4.heap.size<(World.alloc W4 (.cells #[.int .i64 n0,.int .i64 k0,.int .i64 n1,.int .i64 k1,.int .i64 n2,.int .i64 k2] 160)).heap.size:=by simp
  generalize World.alloc W4 _=W5 at hO hT5 hF5 hZ5 ⊢;obtain ⟨Q,hQ⟩:∃ Q,W4.heap.size=Q:=⟨_,rfl⟩
  rw [hQ] at hO hZ5 hZ4 ⊢;clear hT4 hF4 s0 s1 s2 s3 s4 s5 s6 hQ;go_loopw [35] (fun k' wr=>∃ k:Nat,k'=.int .i64 k∧k≤3∧Hid ((0<k→P0)∧(1<k→P1)∧(2<k→P2))∧Two w wr [.slice p.funA p.funs.length p.funC,.slice p.obA p.obs.length p.obC,.slice p.vrA p.vrs.length p.vrC,.string f.name,.int .i64 f.params,.int .i64 f.regs,.int .i64 f.prio,.bool f.clean,.slice f.codeA f.code.length f.codeC] [.int .i64 op,.int .i64 a,.int .i64 b,.int .i64 c,.slice argA N argC]∧Bx wr G [.int .i64 n0,.int .i64 k0,.int .i64 n1,.int .i64 k1,.int .i64 n2,.int .i64 k2,.int .i64 g]∧Bx wr Q [.int .i64 n0,.int .i64 k0,.int .i64 n1,.int .i64 k1,.int .i64 n2,.int .i64 k2]∧Q<wr.heap.size) (fun k' _=>3 - (intOf k').toNat)
  case atStart=>exact ⟨0,rfl,by omega,hid ⟨fun e=>by omega,fun e=>by omega,fun e=>by omega⟩,hT5,hF5,hO,hZ5⟩
  case round=>
   obtain ⟨k,rfl,hk,HKS,hTr,hFr,hOr,hZr⟩:=hrel;obtain ⟨x0,x1,x2,x3,x4,x5,x6,x7,x8⟩:=bx9 hTr.fst;obtain ⟨z0,z1,z2,z3,z4⟩:=bx5 hTr.snd;obtain ⟨s0,s1,s2,s3,s4,s5,s6⟩:=bx7 hFr;obtain ⟨o0,o1,o2,o3,o4,o5⟩:=bx6 hOr;by_cases hlt:k<3
   ·have hk3:k=0∨k=1∨k=2:=by omega
    clear hlt hk;have hk0:=zi k;have hkl3:(k:Int)<3:=by omega
    have hd1:=Dt (show (k:Int)<3 by omega);have hd2:=Dt (show k<3 by omega);have hwk:=Wi k (by omega);go_upto_region 8 with fail;rename_i K9 hK9
    have key9:∀ (u36 u37 u38 u39:Value) (n:Nat) (kk x:Int) (PP:Prop),([.int .i64 a,.int .i64 b,.int .i64 c]:List Value)[k]? = some (.int .i64 x)→Hid (∀ (W:World),Below w.heap.size w W→Calls Tryz.prog 126 #[.agg #[.slice p.funA p.funs.length p.funC,.slice p.obA p.obs.length p.obC,.slice p.vrA p.vrs.length p.vrC,.string f.name,.int .i64 f.params,.int .i64 f.regs,.int .i64 f.prio,.bool f.clean,.slice f.codeA f.code.length f.codeC],.agg #[.int .i64 n,.int .i64 kk],.int .i64 x] W (RetE PP W)) →
      Hid (PP→((0<k+1→P0)∧(1<k+1→P1)∧(2<k+1→P2)))→Hid (V→PP)→K9 ⟨#[.agg #[.slice p.funA p.funs.length p.funC,.slice p.obA p.obs.length p.obC,.slice p.vrA p.vrs.length p.vrC,.string f.name,.int .i64 f.params,.int .i64 f.regs,.int .i64 f.prio,.bool f.clean,.slice f.codeA f.code.length f.codeC],.agg #[.int .i64 op,.int .i64 a,.int .i64 b,.int .i64 c,.slice argA N argC],.pointer (some ⟨w.heap.size,0,none⟩),.pointer (some ⟨w.heap.size+1,0,none⟩),u4,.pointer (some ⟨G,0,none⟩),.bool true,.int .i64 k,.pointer (some ⟨wr.heap.size,0,none⟩),u9,undef,u11,u12,u13,u14,u15,u16,u17,u18,u19,u20,u21,u22,u23,u24,u25,u26,.pointer (some ⟨G,0,none⟩),.agg #[.int .i64 n0,.int .i64 k0],.pointer (some ⟨G,2,none⟩),.agg #[.int .i64 n1,.int .i64 k1],.pointer (some ⟨G,4,none⟩),.agg #[.int .i64 n2,.int .i64 k2],.slice (some ⟨Q,0,none⟩) 3 3,.int .i64 3,.int .i64 k,u36,u37,u38,u39,u40,u41,u42,u43,u44,u45,u46,u47,u48,u49,u50,u51,u52,u53,u54,u55,u56,undef,undef,undef,undef,undef,undef,undef,undef,undef,undef,undef,undef,undef,undef,undef,undef,undef,undef,undef,undef,undef,undef,undef,undef,undef,undef,undef,undef,undef,undef,undef,undef,undef,undef,undef,undef,undef,undef,undef,undef,undef,undef,undef,undef],[]⟩ (wr.alloc (.cells #[.int .i64 n,.int .i64 kk] 160)):=by
     intro u36 u37 u38 u39 n kk x PP hx HOK HPN HVP;have HX:Hid (∀ W:World,(W.alloc (.cells #[.int .i64 a,.int .i64 b,.int .i64 c] 3)).cell? ⟨W.heap.size,k,none⟩=some (.int .i64 x)):=hid (fun W=>bx_new W #[.int .i64 a,.int .i64 b,.int .i64 c] 3 k _ hx);refine hK9 _ _ ?_;clear hK9 hx;go_upto_region 9 with fail;have hB:=bx_new wr #[.int .i64 n,.int .i64 kk] 160;have hTb:=hTr.next (below_alloc wr (.cells #[.int .i64 n,.int .i64 kk] 160));have hFb:=hFr.below (below_alloc wr (.cells #[.int .i64 n,.int .i64 kk] 160)) (by omega);have hOb:=hOr.below (below_alloc wr (.cells #[.int .i64 n,.int .i64 kk] 160)) hZr;have hZb:wr.heap.size<(World.alloc wr (.cells #[.int .i64 n,.int .i64 kk] 160)).heap.size:=by simp
     generalize World.alloc wr _=Wb at hB hTb hFb hOb hZb ⊢;obtain ⟨Vb,hV⟩:∃ V,wr.heap.size=V:=⟨_,rfl⟩
     rw [hV] at hB hZb hZr ⊢;clear hTr hFr hOr hV x0 x1 x2 x3 x4 x5 x6 x7 x8 z0 z1 z2 z3 z4 s0 s1 s2 s3 s4 s5 s6 o0 o1 o2 o3 o4 o5;have hR:=inr_cells (W:=Wb) ⟨hTb,hFb,hOb,hB,hZ4,hZr,hZb⟩;clear hB hTb hFb hOb hZb
     refine wp_region_held_drew (S:=(fun w'=>(w'.cell? ⟨w.heap.size,0,none⟩=some (.slice p.funA p.funs.length p.funC)∧w'.cell? ⟨w.heap.size,1,none⟩=some (.slice p.obA p.obs.length p.obC)∧w'.cell? ⟨w.heap.size,2,none⟩=some (.slice p.vrA p.vrs.length p.vrC)∧w'.cell? ⟨w.heap.size,3,none⟩=some (.string f.name)∧w'.cell? ⟨w.heap.size,4,none⟩=some (.int .i64 f.params)∧w'.cell? ⟨w.heap.size,5,none⟩=some (.int .i64 f.regs)∧w'.cell? ⟨w.heap.size,6,none⟩=some (.int .i64 f.prio)∧w'.cell? ⟨w.heap.size,7,none⟩=some (.bool f.clean)∧w'.cell? ⟨w.heap.size,8,none⟩=some (.slice f.codeA f.code.length f.codeC)∧w'.cell? ⟨w.heap.size+1,1,none⟩=some (.int .i64 a)∧w'.cell? ⟨w.heap.size+1,2,none⟩=some (.int .i64 b)∧w'.cell? ⟨w.heap.size+1,3,none⟩=some (.int .i64 c)∧w'.cell? ⟨Vb,0,none⟩=some (.int .i64 n)∧w'.cell? ⟨Vb,1,none⟩=some (.int .i64 kk))∧InR w [.slice p.funA p.funs.length p.funC,.slice p.obA p.obs.length p.obC,.slice p.vrA p.vrs.length p.vrC,.string f.name,.int .i64 f.params,.int .i64 f.regs,.int .i64 f.prio,.bool f.clean,.slice f.codeA f.code.length f.codeC] [.int .i64 op,.int .i64 a,.int .i64 b,.int .i64 c,.slice argA N argC] [.int .i64 n0,.int .i64 k0,.int .i64 n1,.int .i64 k1,.int .i64 n2,.int .i64 k2,.int .i64 g] [.int .i64 n0,.int .i64 k0,.int .i64 n1,.int .i64 k1,.int .i64 n2,.int .i64 k2] [.int .i64 n,.int .i64 kk] G Q Vb w')) (by kernel_rfl) (inr_below hR (below_drews _ _ 1)) (fun hHeld=>?_)
     have hRd:=hHeld;clear hR;generalize Wb.drew=Wd at hRd hHeld ⊢;have hx1:=HX.out Wd;refine tkH 0 rfl ?_;try simp only [frS,Act.put]
     refine tkH 1 rfl ?_;try simp only [frS,Act.put]
     refine tkH 2 rfl ?_;try simp only [frS,Act.put]
     refine tkH 3 rfl ?_;try simp only [frS,Act.put]
     refine tkH 4 rfl ?_;try simp only [frS,Act.put]
     refine tkH 5 rfl ?_;try simp only [frS,Act.put]
     refine tkH 6 rfl ?_;try simp only [frS,Act.put]
     refine tkH 7 rfl ?_;try simp only [frS,Act.put]
     refine tkH 9 rfl ?_;try simp only [frS,Act.put]
     refine rdH 8 rfl fun K hK=>?_
     go_simp;refine hK.out _ _ ?_ (fun hHeld=>?_)
     ·exact inr_alloc hRd _
     clear hK K;try simp only [frS,Act.put]
     refine tkH 10 rfl ?_;try simp only [frS,Act.put]
     refine rdH 11 rfl fun K hK=>?_
     go_simp;refine hK.out _ _ ?_ (fun hHeld=>?_)
     ·assumption
     clear hK K;try simp only [frS,Act.put]
     refine rdH 12 rfl fun K hK=>?_
     go_simp;refine (HOK.out _ (inr_alloc hRd _).2.two.below).mono ?_;rintro e W6 ⟨nn,rfl,hnn,hb6⟩;try simp only []
     refine hK.out _ _ ?_ (fun hHeld=>?_)
     ·exact inr_below (inr_alloc hRd _) hb6
     clear hK K;try simp only [frS,Act.put]
     refine tkH 13 rfl ?_;try simp only [frS,Act.put]
     refine wpAnyH_done (by kernel_rfl) ?_ _;have h9:=(inr_below (inr_alloc hRd _) hb6).2;clear hb6 hRd hHeld hx1;have HNN:=hid hnn;clear hnn;by_cases hn0:nn=0
     ·subst hn0
      have HK2:=hid (HPN.out (HNN.out.1 rfl));clear HKS;go_wp2_with fail;exact ⟨⟨k+1,by go_num,by omega,HK2,h9.two,h9.sh,h9.os,by have:=h9.le; omega⟩,by simp [intOf]; omega⟩
     ·have en:(nn != 0)=true:=by simpa using hn0
      have HNO:=hid (show ¬ V from fun v=>hn0 (HNN.out.2 (HVP.out v)));have HN0:=hid hn0;clear hn0;go_wp2_with fail;go_ret;exact retE_no HN0.out HNO.out h9.two.below
    have HK9:=hid key9;clear hK9 key9;rcases hk3 with rfl | rfl | rfl
    ·go_wp2_with fail
     exact HK9.out _ _ _ _ n0 k0 a P0 rfl HO0 (hid fun h=>⟨fun _=>h,fun z=>by omega,fun z=>by omega⟩) (hid fun v=>(HVI.out.1 v).2.1)
    ·go_wp2_with fail
     exact HK9.out _ _ _ _ n1 k1 b P1 rfl HO1 (hid fun h=>⟨fun _=>HKS.out.1 (by omega),fun _=>h,fun z=>by omega⟩) (hid fun v=>(HVI.out.1 v).2.2.1)
    ·go_wp2_with fail
     exact HK9.out _ _ _ _ n2 k2 c P2 rfl HO2 (hid fun h=>⟨fun _=>HKS.out.1 (by omega),fun _=>HKS.out.2.1 (by omega),fun _=>h⟩) (hid fun v=>(HVI.out.1 v).2.2.2.1)
   ·obtain rfl:k=3:=by omega
    clear hk hlt;have HO1P:=hid (HKS.out.2.1 (by omega));have HARW:=hid (HAR.out HO1P.out wr hTr.below);go_wp2_with fail;refine HARW.out.mono ?_;rintro e W6 ⟨nn,rfl,hnn,hb6⟩;have HNN:=hid hnn;have hT6:=hTr.next hb6;clear hTr hFr hOr hnn HARW x0 x1 x2 x3 x4 x5 x6 x7 x8 z0 z1 z2 z3 z4 s0 s1 s2 s3 s4 s5 s6 o0 o1 o2 o3 o4 o5;by_cases hn0:nn=0;rotate_left
    ·have en:(nn != 0)=true:=by simpa using hn0
     have HNO:=hid (show ¬ V from fun v=>hn0 (HNN.out.2 (HVI.out.1 v).2.2.2.2.1));have HN0:=hid hn0;clear hn0;go_wp2_with fail;go_ret;exact retE_no HN0.out HNO.out hT6.below
    subst hn0;have HPF:Hid (f.clean=true→op∉forbL):=HFC;have HVC:=hid (show (¬ (op=65∧a=c)∧¬ (op=67∧(a=b∨a=c∨b=c)))→V from fun z=>HVI.out.2 ⟨HPF.out,HKS.out.1 (by omega),HKS.out.2.1 (by omega),HKS.out.2.2 (by omega),HNN.out.1 rfl,z⟩);have HVN:=hid (show V→(¬ (op=65∧a=c)∧¬ (op=67∧(a=b∨a=c∨b=c))) from fun v=>(HVI.out.1 v).2.2.2.2.2);clear HVI HKS HNN HPF;obtain ⟨z0,z1,z2,z3,z4⟩:=bx5 hT6.snd;by_cases e65:op=65
    ·subst e65
     by_cases eac:a=c
     ·have q3:(a == c)=true:=by simpa using eac
      have HNO:=hid (show ¬ V from fun v=>(HVN.out v).1 ⟨rfl,eac⟩);clear eac;go_wp2_with fail;go_ret;exact retE_no (by decide) HNO.out hT6.below
     ·have q3:(a == c)=false:=by simpa using eac
      have HY:=hid (HVC.out ⟨fun z=>eac z.2,fun z=>absurd z.1 (by decide)⟩);clear eac;go_wp2_with fail;go_ret;exact retE_ok HY.out hT6.below
    ·by_cases e67:op=67
     ·subst e67
      clear e65;by_cases eab:a=b
      ·have q4:(a == b)=true:=by simpa using eab
       have HNO:=hid (show ¬ V from fun v=>(HVN.out v).2 ⟨rfl,.inl eab⟩);clear eab;go_wp2_with fail;go_ret;exact retE_no (by decide) HNO.out hT6.below
      ·have q4:(a == b)=false:=by simpa using eab
       by_cases eac:a=c
       ·have q3:(a == c)=true:=by simpa using eac
        have HNO:=hid (show ¬ V from fun v=>(HVN.out v).2 ⟨rfl,.inr (.inl eac)⟩);clear eab eac;go_wp2_with fail;go_ret;exact retE_no (by decide) HNO.out hT6.below
       ·have q3:(a == c)=false:=by simpa using eac
        by_cases ebc:b=c
        ·have q5:(b == c)=true:=by simpa using ebc
         have HNO:=hid (show ¬ V from fun v=>(HVN.out v).2 ⟨rfl,.inr (.inr ebc)⟩);clear eab eac ebc;go_wp2_with fail;go_ret;exact retE_no (by decide) HNO.out hT6.below
        ·have q5:(b == c)=false:=by simpa using ebc
         have HY:=hid (HVC.out ⟨fun z=>absurd z.1 (by decide),fun z=>z.2.elim eab (fun z=>z.elim eac ebc)⟩);clear eab eac ebc;go_wp2_with fail;go_ret;exact retE_ok HY.out hT6.below
     ·have q1:(op == 65)=false:=by simpa using e65
      have q2:(op == 67)=false:=by simpa using e67
      have HY:=hid (HVC.out ⟨fun z=>e65 z.1,fun z=>e67 z.1⟩);clear e65 e67;go_wp2_with fail;go_ret;exact retE_ok HY.out hT6.below
 have HK6:=hid key6;clear hK6 key6;rcases Bool.eq_false_or_eq_true f.clean with hcl | hcl
 ·rw [hcl] at x7
  have HFB:Hid (∀ W,Calls Tryz.prog 125 #[.int .i64 op] W (Ret (.bool (decide (op∈forbL))) W)):=hid (fun W=>forb_any op W);by_cases hfo:op∈forbL
  ·have HNO:=hid (HNF.out ⟨hcl,hfo⟩)
   rw [decide_eq_true hfo] at HFB;clear hfo hcl;go_wp2_with fail;refine (HFB.out _).mono ?_;rintro e W4 ⟨rfl,hb4⟩;have hT4:=hT3.next hb4;go_wp2_with fail;go_ret;exact retE_no (by decide) HNO.out hT4.below
  ·have HFC:Hid (f.clean=true→op∉forbL):=hid (fun _=>hfo)
   rw [decide_eq_false hfo] at HFB;have HCL:=hid hcl;clear hfo hcl;go_wp2_with fail;refine (HFB.out _).mono ?_;rintro e W4 ⟨rfl,hb4⟩;have hT4:=hT3.next hb4;have hF4:=hF.below hb4 hZ3;have hZ4:G<W4.heap.size:=by have:=hb4.size; omega
   clear hF hT3;go_wp2_with fail;exact HK6.out _ _ _ _ _ _ _ _ _ _ _ _ _ _ _ _ W4 hT4 hF4 hZ4 HFC
 ·rw [hcl] at x7
  have HFC:Hid (f.clean=true→op∉forbL):=hid (fun e=>by rw [hcl] at e; cases e);clear hcl;go_wp2_with fail;exact HK6.out _ _ _ _ _ _ _ _ _ _ _ _ _ _ _ _ W3 hT3 hF hZ3 HFC
end Go.Proofs.YtkpjdanfpolimaaGreat
