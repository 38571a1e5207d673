/- lockorder's Graph, walked. Conditions: the program lies in memory, it is valid. -/
import Derived.Test.YtkpjdanfpolimaaGreatLcBeg
import Derived.Test.YtkpjdanfpolimaaGreatLcLoF
import Derived.Deep.Onto
set_option maxRecDepth 100000
set_option maxHeartbeats 6400000
namespace Go.Proofs.YtkpjdanfpolimaaGreat
open Go.RowKit Go.Shelf
theorem analyze_any (p:Prg) (hfit:Fits p) (hv:prgOk p) (w:World) (h:Lies w w.heap.size p):Calls Tryz.prog 45 #[p.val] w (Analyzed p w):=analyze_of p hfit hv (fun W hW=>begin_any p hv W hW) w h
theorem edgeInfo:(Tryz.prog.info? 47).map (fun i=>(i.zero,i.size,i.bytes))=some (some (.agg #[.int .i64 0,.int .i64 0]),2,16):=by kernel_rfl
def eCells (l:List (Nat × Nat)):List Value:=l.flatMap (fun e=>[.int .i64 e.1,.int .i64 e.2])
def OwnE (w:World) (base:Nat) (v:Value) (l:List (Nat × Nat)):Prop:=w.ownsRow base 47 2 v l.length (eCells l)
def toOne (i:Ins) (l:Int) (t:List BS) (h:Nat):List BS:=if (h:Int)≠l∨i.op≠57 then t.set h (t.getD h 0 ||| bit l.toNat) else t
theorem toOne_len (i:Ins) (l:Int) (t:List BS) (h:Nat):(toOne i l t h).length=t.length:=by unfold toOne; split <;> simp
def oneTo (i:Ins) (l:Int) (t:List BS) (hs:List Nat) (q:Nat):List BS:=(hs.take q).foldl (toOne i l) t
theorem oneTo_succ (i:Ins) (l:Int) (t:List BS) (hs:List Nat) {q:Nat} (hq:q<hs.length):oneTo i l t hs (q+1)=toOne i l (oneTo i l t hs q) hs[q]:=by
 unfold oneTo; rw [take_one _ _ hq,List.foldl_append]; rfl
theorem oneTo_len (i:Ins) (l:Int) (t:List BS) (hs:List Nat) (q:Nat):(oneTo i l t hs q).length=t.length:=by
 unfold oneTo;generalize hs.take q=r
 induction r generalizing t with
 | nil=>rfl
 | cons x r ih=>rw [List.foldl_cons,ih,toOne_len]
theorem toStep_eq (p:Prg) (s:S) (f:Nat) (t:List BS) (k:Nat):toStep p s f t k=match acq p (p.ins f k) with
  | none=>t
  | some l=>if (p.ins f k).op=51∨(s.get (.at_ f k)).1=false then t else oneTo (p.ins f k) l t (listM (s.get (.at_ f k)).2) (listM (s.get (.at_ f k)).2).length:=by
 unfold oneTo; rw [List.take_length]; rfl
theorem toStep_len (p:Prg) (s:S) (f:Nat) (t:List BS) (k:Nat):(toStep p s f t k).length=t.length:=by
 rw [toStep_eq];split
 ·rfl
 ·split
  ·rfl
  ·exact oneTo_len _ _ _ _ _
def rowTo (p:Prg) (s:S) (f:Nat) (t:List BS) (k:Nat):List BS:=(List.range k).foldl (toStep p s f) t
def funTo (p:Prg) (s:S) (j:Nat):List BS:=(List.range j).foldl (fun t f=>rowTo p s f t (p.len f)) (List.replicate p.obs.length 0)
theorem rowTo_succ (p:Prg) (s:S) (f:Nat) (t:List BS) (k:Nat):rowTo p s f t (k+1)=toStep p s f (rowTo p s f t k) k:=by unfold rowTo; rw [List.range_succ,List.foldl_append]; rfl
theorem rowTo_len (p:Prg) (s:S) (f:Nat) (t:List BS):∀ k,(rowTo p s f t k).length=t.length
 | 0=>rfl
 | k+1=>by rw [rowTo_succ,toStep_len,rowTo_len p s f t k]
theorem funTo_succ (p:Prg) (s:S) (j:Nat):funTo p s (j+1)=rowTo p s j (funTo p s j) (p.len j):=by unfold funTo; rw [List.range_succ,List.foldl_append]; rfl
theorem funTo_len (p:Prg) (s:S):∀ j,(funTo p s j).length=p.obs.length
 | 0=>by simp [funTo]
 | j+1=>by rw [funTo_succ,rowTo_len,funTo_len p s j]
def edgesTo (t:List BS) (i:Nat):List (Nat × Nat):=(List.range i).flatMap (fun h=>(listM (t.getD h 0)).map (fun l=>(h,l)))
theorem edgesTo_succ (t:List BS) (i:Nat):edgesTo t (i+1)=edgesTo t i++(listM (t.getD i 0)).map (fun l=>(i,l)):=by unfold edgesTo; rw [List.range_succ,List.flatMap_append]; simp
def graphOf (p:Prg):List (Nat × Nat):=edgesOf (toM p (analysis p))
theorem toM_eq (p:Prg) (s:S):toM p s=funTo p s p.funs.length:=rfl
theorem graphOf_eq (p:Prg):graphOf p=edgesTo (funTo p (analysis p) p.funs.length) p.obs.length:=by
 have h:=funTo_len p (analysis p) p.funs.length;unfold graphOf edgesOf;rw [toM_eq,h];rfl
theorem listM_lt {b:BS} {x:Nat} (h:x∈listM b):x<16∧b.getLsbD x=true:=by
 unfold listM at h;obtain ⟨h1,h2⟩:=List.mem_filter.1 h;exact ⟨List.mem_range.1 h1,h2⟩
theorem listM_len (b:BS):(listM b).length≤16:=Nat.le_trans (List.length_filter_le _ _) (by rw [List.length_range]; exact Nat.le_refl _)
theorem edgesTo_len (t:List BS):∀ i,(edgesTo t i).length≤16 * i
 | 0=>by simp [edgesTo]
 | i+1=>by
  have:=edgesTo_len t i;have:=listM_len (t.getD i 0);rw [edgesTo_succ,List.length_append,List.length_map]; omega
theorem ownE_below {w w':World} {base:Nat} {v:Value} {l:List (Nat × Nat)} (h:OwnE w base v l) (hb:Below w.heap.size w w'):OwnE w' base v l:=
 World.ownsRow.kept h (row:=none) ⟨hb.os,hb.tape,hb.output,hb.size,fun k hk _=>hb.block k hk⟩ (by cases v.ownBlock <;> simp)
def RowT (n:Nat) (T:Nat) (W:World) (t:List BS):Prop:=W.rowIs T 84 n (fun i=>sv (t.getD i 0))
theorem RowT.set {n T:Nat} {W:World} {t:List BS} (h:RowT n T W t) (ht:t.length=n) {x:Nat} (hx:x<n) (b:BS):RowT n T (W.setCell ⟨T,x,none⟩ (sv b)) (t.set x b):=by
 refine (World.rowIs.set h x (sv b)).congr (fun i hi=>?_);simp only [List.getD_eq_getElem?_getD,List.getElem?_set];by_cases e:i=x
 ·subst e; simp [ht,hx]
 ·rw [if_neg e,if_neg (fun z=>e z.symm)]
theorem graph_any (p:Prg) (hfit:Fits p) (hv:prgOk p) (w:World) (h:Lies w w.heap.size p):Calls Tryz.prog 18 #[p.val] w fun e W=>∃ v,e=.returned (.tuple #[v,.int .i64 0])∧OwnE W w.heap.size v (graphOf p)∧Below w.heap.size w W:=by
 have hW:=wf_of hv;have hn:=hW.funs;have hob:=hW.obs;obtain ⟨i0,hi,hz⟩:=Option.map_eq_some_iff.1 edgeInfo;have hz0:i0.zero=some (.agg #[.int .i64 0,.int .i64 0]):=congrArg (fun t=>t.1) hz;have hz1:i0.size=2:=congrArg (fun t=>t.2.1) hz;have hz2:i0.bytes=16:=congrArg (fun t=>t.2.2) hz;clear hz;have hFI:=analysis_fine hW;have HAC:=hid (fun (W:World) (hb:Below w.heap.size w W) (i:Ins) (hi:i.op=57→Idx i.a p.obs.length)=>acq_any p i hi W (h.next hb));have HAN:=hid (fun (W:World) (hb:Below w.heap.size w W)=>analyze_any p hfit hv W (h.next hb));obtain ⟨b,off,hA,hbl,-⟩:=h.fn hn.1;have hmk:=fun W=>run_make_row' (P:=Tryz.prog) 79 84 (.int .u32 0) 4 Tryz.underlying79 (by kernel_rfl) rfl .i64 .i64 p.obs.length (by omega) (by omega) W
 unfold Prg.val at HAC HAN ⊢;rw [hA] at HAC HAN ⊢;have HA:=hid hA;clear h hA;have hT:=one_new w #[.slice (some ⟨b,off,none⟩) p.funs.length p.funC,.slice p.obA p.obs.length p.obC,.slice p.vrA p.vrs.length p.vrC] 26;go_enter Tryz.func18,Tryz.ntmps18;go_upto_region 1 with fail;generalize w.alloc _=w1 at hT ⊢;obtain ⟨x0,x1,x2⟩:=bx3 hT.fst;have HL1:=hid (HAN.out w1 hT.below);go_wp2_with fail;refine (HL1.out).mono ?_;rintro e w2 ⟨L,rfl,hm2,hlo,hb2⟩;clear x0 x1 x2 HL1;have hT2:=hT.next hb2;have hs1:=hT.size;have hs12:=hb2.size;clear hT;obtain ⟨x0,x1,x2⟩:=bx3 hT2.fst;go_upto_region 5 with fail;have hba:=below_alloc w2 (.cells (madeCells #[.int .u32 0] p.obs.length) 84)
 have hro:RowT p.obs.length w2.heap.size (w2.alloc (.cells (madeCells #[.int .u32 0] p.obs.length) 84)) (funTo p (analysis p) 0):=(World.rowIs_made w2 (.int .u32 0) p.obs.length 84).congr (fun i hi=>by
  show _=sv ((List.replicate p.obs.length 0).getD i 0);rw [List.getD_eq_getElem?_getD,List.getElem?_replicate,if_pos hi]; rfl)
 have hma:=hm2.below hba;have hTa:=hT2.next hba;have hzT:L.hi≤w2.heap.size:=hm2.hi.2;have hzw:=hT2.size;have hlo1:w.heap.size+1≤L.lo:=by omega
 clear x0 x1 x2 hm2 hT2 hb2 hba hmk;generalize World.alloc w2 _=wa at hro hma hTa ⊢;generalize w2.heap.size=T at hro hzT hzw ⊢;obtain ⟨x0,x1,x2⟩:=bx3 hTa.fst;go_upto_region 6 with fail;clear x0 x1 x2;have HFN:=hid (fun (W:World) (hm:Mem p L W (analysis p)) (f:Nat) (hf:f<p.funs.length)=>fn_at hm.prog HA.out hf (Turn.refl L.lo L.hi W));have HLN:=hid hW.len;go_loopw [34] (fun i wr=>∃ j:Nat,i=.int .i64 j∧j≤p.funs.length∧Mem p L wr (analysis p)∧One w wr [.slice (some ⟨b,off,none⟩) p.funs.length p.funC,.slice p.obA p.obs.length p.obC,.slice p.vrA p.vrs.length p.vrC]∧RowT p.obs.length T wr (funTo p (analysis p) j)) (fun i _=>p.funs.length - (intOf i).toNat)
 case atStart=>exact ⟨0,rfl,by omega,hma,hTa,hro⟩
 case round=>
  clear hma hTa hro;obtain ⟨f,rfl,hf,hm,hT,hro⟩:=hrel;have hf0:=zi f;have hwr1:=Wi f (by omega);by_cases hlt:f<p.funs.length
  ·have hd1:=Dt (show (f:Int)<p.funs.length by omega)
   have hd2:=Dt hlt;have hjl:(f:Int)<(p.funs.length:Int):=by omega
   obtain ⟨q0,q1,q2,q3,q4,q5⟩:=HFN.out wr hm f hlt;go_upto_region 8 with fail;have hF:=bx_new wr #[.string (p.fn f).name,.int .i64 (p.fn f).params,.int .i64 (p.fn f).regs,.int .i64 (p.fn f).prio,.bool (p.fn f).clean,.slice (p.fn f).codeA (p.len f) (p.fn f).codeC] 60;have hba:=below_alloc wr (.cells #[.string (p.fn f).name,.int .i64 (p.fn f).params,.int .i64 (p.fn f).regs,.int .i64 (p.fn f).prio,.bool (p.fn f).clean,.slice (p.fn f).codeA (p.len f) (p.fn f).codeC] 60);have hma:=hm.below hba;have hTa:=hT.next hba;have hra:RowT p.obs.length T (World.alloc wr (.cells #[.string (p.fn f).name,.int .i64 (p.fn f).params,.int .i64 (p.fn f).regs,.int .i64 (p.fn f).prio,.bool (p.fn f).clean,.slice (p.fn f).codeA (p.len f) (p.fn f).codeC] 60)) (funTo p (analysis p) f):=World.rowIs.alloc hro _;have hzG:L.hi≤wr.heap.size:=hm.hi.2
   have hzTG:T<wr.heap.size:=World.rowIs.lt hro;have hZ1:wr.heap.size<(World.alloc wr (.cells #[.string (p.fn f).name,.int .i64 (p.fn f).params,.int .i64 (p.fn f).regs,.int .i64 (p.fn f).prio,.bool (p.fn f).clean,.slice (p.fn f).codeA (p.len f) (p.fn f).codeC] 60)).heap.size:=by simp
   generalize World.alloc wr _=wa at hF hma hTa hra hZ1 ⊢;clear q0 q1 q2 q3 q4 q5 hm hT hro hba;generalize wr.heap.size=G at hF hzG hzTG hZ1 ⊢;obtain ⟨y0,y1,y2,y3,y4,y5⟩:=bx6 hF;go_upto_region 9 with fail;clear y0 y1 y2 y3 y4 y5 hF hZ1;have hlen:=HLN.out f hlt;have hl0:=zi (p.len f);have HSU:=hid (funTo_succ p (analysis p) f);have hrl:=funTo_len p (analysis p) f;generalize funTo p (analysis p) f=t0 at hra HSU hrl;have HRL:=hid hrl;clear hrl;by_cases hM0:p.len f=0
   ·have HSU2:Hid (funTo p (analysis p) (f+1)=t0):=by show _=_; rw [HSU.out,hM0]; rfl
    rw [hM0];clear hM0 hlen hl0 HSU;go_loopw [42] (fun i wr=>i=.int .i64 0∧Mem p L wr (analysis p)∧One w wr [.slice (some ⟨b,off,none⟩) p.funs.length p.funC,.slice p.obA p.obs.length p.obC,.slice p.vrA p.vrs.length p.vrC]∧RowT p.obs.length T wr t0) (fun i _=>0)
    case atStart=>exact ⟨rfl,hma,hTa,hra⟩
    case round=>
     obtain ⟨rfl,hm,hT,hro⟩:=hrel;go_wp2_with fail;go_round
     case rel=>exact ⟨f+1,rfl,by omega,hm,hT,by rw [HSU2.out]; exact hro⟩
     case measure=>exact ms (by omega)
   ·have hM1:0<p.len f:=by omega
    obtain ⟨b',off',b2,off2,hA',-,hb2,-,d5,-⟩:=hma.prog.at_ hlt hM1;have e5:=(HFN.out wa hma f hlt).2.2.2.2.2;rw [HA.out] at hA';injection hA' with e;injection e with e1 e2;subst e1; subst e2;have d5':=d5;rw [d5] at e5;injection e5 with e5;injection e5 with e5;rw [← e5];have HAT:=hid (fun (W:World) (hm:Mem p L W (analysis p)) (k:Nat) (hk:k<p.len f)=>code_at hm.prog hm.hi HA.out hb2 (by rw [e5]; exact (HFN.out W hm f hlt).2.2.2.2.2) hlt hk (Turn.refl L.lo L.hi W));clear d5 d5' hM0 hb2 hM1 e5;go_loopw [42] (fun i wr=>∃ k:Nat,i=.int .i64 k∧k≤p.len f∧Mem p L wr (analysis p)∧One w wr [.slice (some ⟨b,off,none⟩) p.funs.length p.funC,.slice p.obA p.obs.length p.obC,.slice p.vrA p.vrs.length p.vrC]∧RowT p.obs.length T wr (rowTo p (analysis p) f t0 k)) (fun i _=>p.len f - (intOf i).toNat)
    case atStart=>exact ⟨0,rfl,by omega,hma,hTa,hra⟩
    case round=>
     clear hma hTa hra;obtain ⟨k,rfl,hk,hm,hT,hro⟩:=hrel;have hk0:=zi k;have hwr2:=Wi k (by omega);by_cases hltk:k<p.len f
     ·have hd3:=Dt (show (k:Int)<p.len f by omega)
      have hd4:=Dt hltk;have hkl:(k:Int)<(p.len f:Int):=by omega
      have HRS:=hid (rowTo_succ p (analysis p) f t0 k);have hrl:=rowTo_len p (analysis p) f t0 k;rw [HRL.out] at hrl;have HSE:=hid (toStep_eq p (analysis p) f (rowTo p (analysis p) f t0 k) k);generalize rowTo p (analysis p) f t0 k=t1 at hro HRS hrl HSE;have hI:=hW.ins f k hlt hltk
      have HLI:=hid (fun x (hx:x∈listM ((analysis p).get (.at_ f k)).2)=>(show x<p.obs.length from by
       obtain ⟨o,ho,-⟩:=hFI.get (.at_ f k) x (listM_lt hx).2;exact (List.getElem?_eq_some_iff.1 ho).1))
      obtain ⟨q0,q1,q2,q3,q4⟩:=HAT.out wr hm k hltk;have HII:=hid hI;clear hI;go_upto_region 11 with fail;have hbi:=below_alloc wr (.cells #[.int .i64 (p.ins f k).op,.int .i64 (p.ins f k).a,.int .i64 (p.ins f k).b,.int .i64 (p.ins f k).c,.slice (p.ins f k).argA (p.ins f k).args.length (p.ins f k).argC] 63);have hX:=bx_new wr #[.int .i64 (p.ins f k).op,.int .i64 (p.ins f k).a,.int .i64 (p.ins f k).b,.int .i64 (p.ins f k).c,.slice (p.ins f k).argA (p.ins f k).args.length (p.ins f k).argC] 63;have hmi:=hm.below hbi;have hTi:=hT.next hbi;have hri:RowT p.obs.length T (World.alloc wr (.cells #[.int .i64 (p.ins f k).op,.int .i64 (p.ins f k).a,.int .i64 (p.ins f k).b,.int .i64 (p.ins f k).c,.slice (p.ins f k).argA (p.ins f k).args.length (p.ins f k).argC] 63)) t1:=World.rowIs.alloc hro _;have hzT2:T<wr.heap.size:=World.rowIs.lt hro
      have hzZ:wr.heap.size<(World.alloc wr (.cells #[.int .i64 (p.ins f k).op,.int .i64 (p.ins f k).a,.int .i64 (p.ins f k).b,.int .i64 (p.ins f k).c,.slice (p.ins f k).argA (p.ins f k).args.length (p.ins f k).argC] 63)).heap.size:=by simp
      clear q0 q1 q2 q3 q4 hbi hm hT hro;generalize World.alloc wr _=wi at hX hmi hTi hri hzZ ⊢;generalize wr.heap.size=Z at hX hzT2 hzZ ⊢;obtain ⟨z0,z1,z2,z3,z4⟩:=bx5 hX;obtain ⟨x0,x1,x2⟩:=bx3 hTi.fst;have HC:=HAC.out wi hTi.below (p.ins f k) (fun e=>(HII.out.wait e).1);unfold Ins.val Ins.cells at HC
      cases hq:acq p (p.ins f k) with
      | none=>
       have e6:acqVal p (p.ins f k)=.tuple #[.int .i64 0,.bool false]:=by unfold acqVal; rw [hq]
       have HE:Hid (rowTo p (analysis p) f t0 (k+1)=t1):=by show _=_; rw [HRS.out,HSE.out,hq]
       rw [e6] at HC;have HC:=hid HC;clear hq e6;go_wp2_with fail;refine HC.out.mono ?_;rintro e wk ⟨rfl,hbn⟩;clear z0 z1 z2 z3 z4 x0 x1 x2;have hmn:=hmi.below hbn;have hTn:=hTi.next hbn;have hrn:RowT p.obs.length T wk _:=World.rowIs.of_block hri (hbn.block _ (World.rowIs.lt hri));clear hmi hTi hri;go_wp2_with fail;go_round
       case rel=>exact ⟨k+1,rfl,by omega,hmn,hTn,by rw [HE.out]; exact hrn⟩
       case measure=>exact ms (by omega)
      | some l=>
       obtain ⟨⟨hl0,hl1⟩,-⟩:=acq_idx HII.out hq;obtain ⟨m,rfl⟩:∃ m:Nat,l=m:=⟨l.toNat,by omega⟩
       have hm16:m<16:=by have:=hW.obs; omega
       have e6:acqVal p (p.ins f k)=.tuple #[.int .i64 (m:Int),.bool true]:=by unfold acqVal; rw [hq]
       have HE:Hid (rowTo p (analysis p) f t0 (k+1)=if (p.ins f k).op=51∨((analysis p).get (.at_ f k)).1=false then t1 else oneTo (p.ins f k) (m:Int) t1 (listM ((analysis p).get (.at_ f k)).2) (listM ((analysis p).get (.at_ f k)).2).length):=by show _=_; rw [HRS.out,HSE.out,hq]
       rw [e6] at HC;have HC:=hid HC;clear hq e6 hl0 hl1;by_cases h51:(p.ins f k).op=51
       ·have HE2:Hid (rowTo p (analysis p) f t0 (k+1)=t1):=by show _=_; rw [HE.out,if_pos (.inl h51)]
        have e51:((p.ins f k).op == 51)=true:=by simpa using h51
        clear h51 HE;have HE:=HE2;clear HE2;go_wp2_with fail;refine HC.out.mono ?_;rintro e wk ⟨rfl,hbn⟩;have hmn:=hmi.below hbn;have hTn:=hTi.next hbn;have hrn:RowT p.obs.length T wk _:=World.rowIs.of_block hri (hbn.block _ (World.rowIs.lt hri));clear hmi hTi hri;have hXn:=hX.below hbn hzZ;clear hX;clear z0 z1 z2 z3 z4 x0 x1 x2;obtain ⟨z0,z1,z2,z3,z4⟩:=bx5 hXn;go_wp2_with fail;go_round
        case rel=>exact ⟨k+1,rfl,by omega,hmn,hTn,by rw [HE.out]; exact hrn⟩
        case measure=>exact ms (by omega)
       ·have e51:((p.ins f k).op == 51)=false:=by simpa using h51
        have HE2:Hid (rowTo p (analysis p) f t0 (k+1)=if ((analysis p).get (.at_ f k)).1=false then t1 else oneTo (p.ins f k) (m:Int) t1 (listM ((analysis p).get (.at_ f k)).2) (listM ((analysis p).get (.at_ f k)).2).length):=by
         show _=_;rw [HE.out];by_cases h9:((analysis p).get (.at_ f k)).1=false
         ·rw [if_pos (.inr h9),if_pos h9]
         ·rw [if_neg (fun z=>z.elim h51 h9),if_neg h9]
        clear h51 HE;have HE:=HE2;clear HE2;go_wp2_with fail;refine HC.out.mono ?_;rintro e wk ⟨rfl,hbn⟩;have hmn:=hmi.below hbn;have hTn:=hTi.next hbn;have hrn:RowT p.obs.length T wk _:=World.rowIs.of_block hri (hbn.block _ (World.rowIs.lt hri));clear hmi hTi hri;have hXn:=hX.below hbn hzZ;clear hX;have hzZn:Z<wk.heap.size:=Nat.lt_of_lt_of_le hzZ hbn.size;clear z0 z1 z2 z3 z4 x0 x1 x2 hbn hzZ;obtain ⟨z0,z1,z2,z3,z4⟩:=bx5 hXn;have c9:=hmn.c9;have cr:=hmn.outR f hlt;have cs:=(hmn.slot (.at_ f k) ⟨hlt,hltk⟩).1.1;unfold Lay.kA at cs;dsimp only at cs
        cases hg:((analysis p).get (.at_ f k)).1 with
        | false=>
         rw [hg] at cs;have HE2:Hid (rowTo p (analysis p) f t0 (k+1)=t1):=by show _=_; rw [HE.out,if_pos hg]
         clear hg HE;have HE:=HE2;clear HE2;go_wp2_with fail;go_round
         case rel=>exact ⟨k+1,rfl,by omega,hmn,hTn,by rw [HE.out]; exact hrn⟩
         case measure=>exact ms (by omega)
        | true=>
         rw [hg] at cs;have HE2:Hid (rowTo p (analysis p) f t0 (k+1)=oneTo (p.ins f k) (m:Int) t1 (listM ((analysis p).get (.at_ f k)).2) (listM ((analysis p).get (.at_ f k)).2).length):=by show _=_; rw [HE.out,if_neg (by rw [hg]; decide)]
         clear hg HE;have HE:=HE2;clear HE2;have c10:=hmn.c10;have cB:=hmn.outB f hlt;have ct:=(hmn.slot (.at_ f k) ⟨hlt,hltk⟩).2.1;unfold Lay.tA sv at ct;dsimp only at ct;generalize ((analysis p).get (.at_ f k)).2=bs at ct HE HLI;have HLS:=hid (fun W=>list_any bs W);unfold sv at HLS;have hll:=listM_len bs;have HLT:=hid (fun x (hx:x∈listM bs)=>(listM_lt hx).1);generalize listM bs=ls at HLI HLS HLT HE hll;go_wp2_with fail;refine (HLS.out _).mono ?_;rintro e w5 ⟨v5,rfl,hown,hb5⟩;clear c9 cr cs c10 cB ct z0 z1 z2 z3 z4;have hm5:=hmn.below hb5;have hT5:=hTn.next hb5;have hr5:RowT p.obs.length T w5 t1:=World.rowIs.of_block hrn (hb5.block _ (World.rowIs.lt hrn));have hX5:=hXn.below hb5 hzZn;have hTw:T<wk.heap.size:=World.rowIs.lt hrn;have hTz:T<Z:=hzT2;clear hmn hTn hrn hXn hb5 HLS
         have hnl:(nats ls).length=ls.length:=by simp [nats]
         have hown1:w5.ownsRow wk.heap.size 3 1 v5 (nats ls).length (i64s (nats ls)):=hown;rw [hnl] at hown1;clear hown;rcases hown1.2 with ⟨rfl,h0⟩ | ⟨g,cap,cur,rfl,hgb,-⟩
         ·have HE2:Hid (rowTo p (analysis p) f t0 (k+1)=t1):=by show _=_; rw [HE.out,h0]; rfl
          clear HE hown1;have HE:=HE2;clear HE2;go_upto_region 14 with fail;go_loopw [85] (fun i wr=>i=.int .i64 0∧Mem p L wr (analysis p)∧One w wr [.slice (some ⟨b,off,none⟩) p.funs.length p.funC,.slice p.obA p.obs.length p.obC,.slice p.vrA p.vrs.length p.vrC]∧RowT p.obs.length T wr t1) (fun i _=>0)
          case atStart=>exact ⟨rfl,hm5,hT5,hr5⟩
          case round=>
           clear hm5 hT5 hr5;obtain ⟨rfl,hm,hT,hro⟩:=hrel;go_wp2_with fail;go_round
           case rel=>exact ⟨k+1,rfl,by omega,hm,hT,by rw [HE.out]; exact hro⟩
           case measure=>exact ms (by omega)
         ·have hgc:∀ q (hq:q<ls.length),w5.cell? ⟨g,q,none⟩=some (.int .i64 (ls[q]:Nat)):=fun q hq=>by
           rw [hown1.cellAt q (by omega)];simp [i64s,nats,hq]
          clear hown1;go_upto_region 14 with fail;have HE3:=hid (fun q (hq:q<ls.length)=>oneTo_succ (p.ins f k) (m:Int) t1 ls hq);have HE4:=hid (fun q=>(oneTo_len (p.ins f k) (m:Int) t1 ls q).trans hrl);go_loopw [85] (fun i wr=>∃ q:Nat,i=.int .i64 q∧q≤ls.length∧Mem p L wr (analysis p)∧One w wr [.slice (some ⟨b,off,none⟩) p.funs.length p.funC,.slice p.obA p.obs.length p.obC,.slice p.vrA p.vrs.length p.vrC]∧RowT p.obs.length T wr (oneTo (p.ins f k) (m:Int) t1 ls q)∧Bx wr Z [.int .i64 (p.ins f k).op,.int .i64 (p.ins f k).a,.int .i64 (p.ins f k).b,.int .i64 (p.ins f k).c,.slice (p.ins f k).argA (p.ins f k).args.length (p.ins f k).argC]∧∀ q (hq:q<ls.length),wr.cell? ⟨g,q,none⟩=some (.int .i64 (ls[q]:Nat))) (fun i _=>ls.length - (intOf i).toNat)
          case atStart=>exact ⟨0,rfl,by omega,hm5,hT5,hr5,hX5,hgc⟩
          case round=>
           clear hm5 hT5 hr5 hX5 hgc;obtain ⟨q,rfl,hq,hm,hT,hro,hXr,hgc⟩:=hrel;have hq0:=zi q;have hwr3:=Wi q (by omega);by_cases hltq:q<ls.length
           ·have hd5:=Dt (show (q:Int)<ls.length by omega)
            have hd6:=Dt hltq;have hql:(q:Int)<(ls.length:Int):=by omega
            have g0:=hgc q hltq;have HGC:=hid hgc;clear hgc;have HON:Hid (oneTo (p.ins f k) (m:Int) t1 ls (q+1)=_):=HE3.out q hltq;have hol:=HE4.out q;have hxn:=HLI.out _ (List.getElem_mem hltq);have hx16:=HLT.out _ (List.getElem_mem hltq);generalize ls[q]=x at g0 HON hxn hx16;generalize oneTo (p.ins f k) (m:Int) t1 ls q=t2 at hro HON hol;obtain ⟨z0,z1,z2,z3,z4⟩:=bx5 hXr;have hx0:=zi x;have hx1:(x:Int)<(p.obs.length:Int):=by omega
            by_cases hxm:(x:Int)=(m:Int)
            ·have hxm':m=x:=by omega
             subst hxm';by_cases h57:(p.ins f k).op=57
             ·have e2:((p.ins f k).op == 57)=true:=by simpa using h57
              have HON2:Hid (oneTo (p.ins f k) (m:Int) t1 ls (q+1)=t2):=by show _=_; rw [HON.out]; unfold toOne; rw [if_neg (fun z=>z.elim (fun z=>z hxm) (fun z=>z h57))]
              clear HON h57 hxm;go_wp2_with fail;go_round
              case rel=>exact ⟨q+1,rfl,by omega,hm,hT,by rw [HON2.out]; exact hro,hXr,HGC.out⟩
              case measure=>exact ms (by omega)
             ·have e2:((p.ins f k).op == 57)=false:=by simpa using h57
              have HON2:Hid (oneTo (p.ins f k) (m:Int) t1 ls (q+1)=t2.set m (t2.getD m 0 ||| bit m)):=by show _=_; rw [HON.out]; unfold toOne; rw [if_pos (.inr h57)]; rfl
              clear HON h57 hxm;go_upto_region 17 with fail;refine wp_region_held_drew (S:=fun _=>True) (by kernel_rfl) trivial (fun hHeld=>?_);have hm6:=hm.drewN 1;have hT6:=hT.next (below_drews wr.heap.size wr 1);have hr6:RowT p.obs.length T wr.drew t2:=hro;have hX6:Bx wr.drew Z _:=hXr;have hg6:∀ q (hq:q<ls.length),wr.drew.cell? ⟨g,q,none⟩=some (.int .i64 (ls[q]:Nat)):=HGC.out;change Mem p L wr.drew (analysis p) at hm6;change One w wr.drew _ at hT6;have HG6:=hid hg6;clear z0 z1 z2 z3 z4 g0 hm hT hro hXr HGC hg6;generalize wr.drew=wd at hm6 hT6 hr6 hX6 HG6 hHeld ⊢;have c3:=World.rowIs.cell hr6 hxn;have hfz:=World.rowIs.frozen hr6 m;unfold sv at c3;obtain ⟨tx,htx⟩:∃ tx,t2.getD m 0=tx:=⟨_,rfl⟩
              rw [htx] at c3 HON2;clear htx;refine tkH 0 rfl ?_;try simp only [List.getElem_toArray,List.getElem_cons_zero,Act.put,List.setIfInBounds_toArray,List.set_cons_zero,List.set_cons_succ]
              refine tkH 1 rfl ?_;try simp only [List.getElem_toArray,List.getElem_cons_succ,List.getElem_cons_zero,Act.put,List.setIfInBounds_toArray,List.set_cons_zero,List.set_cons_succ]
              refine tkH 2 rfl ?_;try simp only [List.getElem_toArray,List.getElem_cons_succ,List.getElem_cons_zero,Act.put,List.setIfInBounds_toArray,List.set_cons_zero,List.set_cons_succ]
              refine tkH 4 rfl ?_;try simp only [List.getElem_toArray,List.getElem_cons_succ,List.getElem_cons_zero,Act.put,List.setIfInBounds_toArray,List.set_cons_zero,List.set_cons_succ]
              refine tkH 5 rfl ?_;try simp only [List.getElem_toArray,List.getElem_cons_succ,List.getElem_cons_zero,Act.put,List.setIfInBounds_toArray,List.set_cons_zero,List.set_cons_succ]
              refine rdH 3 rfl fun K hK=>?_
              go_simp;refine hK.out _ _ ?_ (fun hHeld=>?_)
              ·trivial
              clear hK K;try simp only [List.getElem_toArray,List.getElem_cons_succ,List.getElem_cons_zero,Act.put,List.setIfInBounds_toArray,List.set_cons_zero,List.set_cons_succ]
              refine tkH 6 rfl ?_;try simp only [List.getElem_toArray,List.getElem_cons_succ,List.getElem_cons_zero,Act.put,List.setIfInBounds_toArray,List.set_cons_zero,List.set_cons_succ]
              refine tkH 7 rfl ?_;try simp only [List.getElem_toArray,List.getElem_cons_succ,List.getElem_cons_zero,Act.put,List.setIfInBounds_toArray,List.set_cons_zero,List.set_cons_succ]
              refine rdH 8 rfl fun K hK=>?_
              go_simp;refine hK.out _ _ ?_ (fun hHeld=>?_)
              ·trivial
              clear hK K;try simp only [List.getElem_toArray,List.getElem_cons_succ,List.getElem_cons_zero,Act.put,List.setIfInBounds_toArray,List.set_cons_zero,List.set_cons_succ]
              refine wpAnyH_done (by kernel_rfl) ?_ _
              try dsimp only [Exit.then]
              generalize hWE:World.setCell wd ⟨T,m,none⟩ _=wj
              have hE9:World.setCell wd ⟨T,m,none⟩ (sv (tx ||| bit m))=wj:=by
               rw [← hWE];unfold sv;rw [← or_sv,← bit_sv];rfl
              have hrj:RowT p.obs.length T wj (t2.set m (tx ||| bit m)):=by rw [← hE9]; exact hr6.set hol hxn _
              have hmj:Mem p L wj (analysis p):=by rw [← hE9]; exact hm6.below' ((Below.refl _ _).setCell (p:=⟨T,m,none⟩) hzT _)
              have hTj:One w wj _:=⟨fun q u hq=>by
               rw [← hE9,World.cell?_setCell_far _ _ _ _ (by show T≠w.heap.size; omega)];exact hT6.fst q u hq,by rw [← hE9]; exact hT6.below.setCell (p:=⟨T,m,none⟩) (by show w.heap.size≤T; omega) _,by rw [← hE9]; simpa using hT6.size⟩
              have hXj:Bx wj Z _:=fun q u hq=>by
               rw [← hE9,World.cell?_setCell_far _ _ _ _ (by show T≠Z; omega)];exact hX6 q u hq
              have hgj:∀ q (hq:q<ls.length),wj.cell? ⟨g,q,none⟩=some (.int .i64 (ls[q]:Nat)):=fun q hq=>by
               rw [← hE9,World.cell?_setCell_far _ _ _ _ (by show T≠g; omega)];exact HG6.out q hq
              clear hm6 hT6 hr6 hX6 HG6 hWE hE9 c3 hfz hHeld;go_wp2_with fail;go_round
              case rel=>exact ⟨q+1,rfl,by omega,hmj,hTj,by rw [HON2.out]; exact hrj,hXj,hgj⟩
              case measure=>exact ms (by omega)
            ·have e1:((x:Int) == (m:Int))=false:=by simpa using hxm
             have e1n:(x == m)=false:=by have:x≠m:=(by omega); simpa using this
             have HON2:Hid (oneTo (p.ins f k) (m:Int) t1 ls (q+1)=t2.set x (t2.getD x 0 ||| bit m)):=by show _=_; rw [HON.out]; unfold toOne; rw [if_pos (.inl hxm)]; rfl
             clear HON hxm;go_upto_region 17 with fail;refine wp_region_held_drew (S:=fun _=>True) (by kernel_rfl) trivial (fun hHeld=>?_);have hm6:=hm.drewN 1;have hT6:=hT.next (below_drews wr.heap.size wr 1);have hr6:RowT p.obs.length T wr.drew t2:=hro;have hX6:Bx wr.drew Z _:=hXr;have hg6:∀ q (hq:q<ls.length),wr.drew.cell? ⟨g,q,none⟩=some (.int .i64 (ls[q]:Nat)):=HGC.out;change Mem p L wr.drew (analysis p) at hm6;change One w wr.drew _ at hT6;have HG6:=hid hg6;clear z0 z1 z2 z3 z4 g0 hm hT hro hXr HGC hg6;generalize wr.drew=wd at hm6 hT6 hr6 hX6 HG6 hHeld ⊢;have c3:=World.rowIs.cell hr6 hxn;have hfz:=World.rowIs.frozen hr6 x;unfold sv at c3;obtain ⟨tx,htx⟩:∃ tx,t2.getD x 0=tx:=⟨_,rfl⟩
             rw [htx] at c3 HON2;clear htx;refine tkH 0 rfl ?_;try simp only [List.getElem_toArray,List.getElem_cons_zero,Act.put,List.setIfInBounds_toArray,List.set_cons_zero,List.set_cons_succ]
             refine tkH 1 rfl ?_;try simp only [List.getElem_toArray,List.getElem_cons_succ,List.getElem_cons_zero,Act.put,List.setIfInBounds_toArray,List.set_cons_zero,List.set_cons_succ]
             refine tkH 2 rfl ?_;try simp only [List.getElem_toArray,List.getElem_cons_succ,List.getElem_cons_zero,Act.put,List.setIfInBounds_toArray,List.set_cons_zero,List.set_cons_succ]
             refine tkH 4 rfl ?_;try simp only [List.getElem_toArray,List.getElem_cons_succ,List.getElem_cons_zero,Act.put,List.setIfInBounds_toArray,List.set_cons_zero,List.set_cons_succ]
             refine tkH 5 rfl ?_;try simp only [List.getElem_toArray,List.getElem_cons_succ,List.getElem_cons_zero,Act.put,List.setIfInBounds_toArray,List.set_cons_zero,List.set_cons_succ]
             refine rdH 3 rfl fun K hK=>?_
             go_simp;refine hK.out _ _ ?_ (fun hHeld=>?_)
             ·trivial
             clear hK K;try simp only [List.getElem_toArray,List.getElem_cons_succ,List.getElem_cons_zero,Act.put,List.setIfInBounds_toArray,List.set_cons_zero,List.set_cons_succ]
             refine tkH 6 rfl ?_;try simp only [List.getElem_toArray,List.getElem_cons_succ,List.getElem_cons_zero,Act.put,List.setIfInBounds_toArray,List.set_cons_zero,List.set_cons_succ]
             refine tkH 7 rfl ?_;try simp only [List.getElem_toArray,List.getElem_cons_succ,List.getElem_cons_zero,Act.put,List.setIfInBounds_toArray,List.set_cons_zero,List.set_cons_succ]
             refine rdH 8 rfl fun K hK=>?_
             go_simp;refine hK.out _ _ ?_ (fun hHeld=>?_)
             ·trivial
             clear hK K;try simp only [List.getElem_toArray,List.getElem_cons_succ,List.getElem_cons_zero,Act.put,List.setIfInBounds_toArray,List.set_cons_zero,List.set_cons_succ]
             refine wpAnyH_done (by kernel_rfl) ?_ _
             try dsimp only [Exit.then]
             generalize hWE:World.setCell wd ⟨T,x,none⟩ _=wj
             have hE9:World.setCell wd ⟨T,x,none⟩ (sv (tx ||| bit m))=wj:=by
              rw [← hWE];unfold sv;rw [← or_sv,← bit_sv];rfl
             have hrj:RowT p.obs.length T wj (t2.set x (tx ||| bit m)):=by rw [← hE9]; exact hr6.set hol hxn _
             have hmj:Mem p L wj (analysis p):=by rw [← hE9]; exact hm6.below' ((Below.refl _ _).setCell (p:=⟨T,x,none⟩) hzT _)
             have hTj:One w wj _:=⟨fun q u hq=>by
              rw [← hE9,World.cell?_setCell_far _ _ _ _ (by show T≠w.heap.size; omega)];exact hT6.fst q u hq,by rw [← hE9]; exact hT6.below.setCell (p:=⟨T,x,none⟩) (by show w.heap.size≤T; omega) _,by rw [← hE9]; simpa using hT6.size⟩
             have hXj:Bx wj Z _:=fun q u hq=>by
              rw [← hE9,World.cell?_setCell_far _ _ _ _ (by show T≠Z; omega)];exact hX6 q u hq
             have hgj:∀ q (hq:q<ls.length),wj.cell? ⟨g,q,none⟩=some (.int .i64 (ls[q]:Nat)):=fun q hq=>by
              rw [← hE9,World.cell?_setCell_far _ _ _ _ (by show T≠g; omega)];exact HG6.out q hq
             clear hm6 hT6 hr6 hX6 HG6 hWE hE9 c3 hfz hHeld;go_wp2_with fail;go_round
             case rel=>exact ⟨q+1,rfl,by omega,hmj,hTj,by rw [HON2.out]; exact hrj,hXj,hgj⟩
             case measure=>exact ms (by omega)
           ·obtain rfl:q=ls.length:=by omega
            have hd5:=Df (show ¬ (ls.length:Int)<ls.length by omega);have hd6:=Df (show ¬ (ls.length<ls.length) by omega);go_wp2_with fail;go_round
            case rel=>exact ⟨k+1,rfl,by omega,hm,hT,by rw [HE.out]; exact hro⟩
            case measure=>exact ms (by omega)
     ·obtain rfl:k=p.len f:=by omega
      have hd3:=Df (show ¬ ((p.len f:Int)<(p.len f:Int)) by omega);have hd4:=Df (show ¬ (p.len f<p.len f) by omega);go_wp2_with fail;go_round
      case rel=>exact ⟨f+1,rfl,by omega,hm,hT,by rw [HSU.out]; exact hro⟩
      case measure=>exact ms (by omega)
  ·obtain rfl:f=p.funs.length:=by omega
   have hd1:=Df (show ¬ (p.funs.length:Int)<p.funs.length by omega);have hd2:=Df (show ¬ (p.funs.length<p.funs.length) by omega);have hGE:=graphOf_eq p;have htl:=funTo_len p (analysis p) p.funs.length;generalize funTo p (analysis p) p.funs.length=t at hro hGE htl;have HGE:=hid hGE;have hTW:T<wr.heap.size:=World.rowIs.lt hro;have hbw:=hT.below;clear hGE hm hT hd1 hd2 hlt hf hf0 hwr1;go_upto_region 23 with fail;have hob0:=zi (p.obs.length);go_loopw [15,110] (fun a i wr=>∃ h:Nat,i=.int .i64 h∧h≤p.obs.length∧OwnE wr (T+1) a (edgesTo t h)∧RowT p.obs.length T wr t∧Below w.heap.size w wr∧T<wr.heap.size) (fun _ i _=>p.obs.length - (intOf i).toNat)
   case atStart=>exact ⟨0,rfl,by omega,World.ownsRow_nil _ _ _ _,hro,hbw,hTW⟩
   case round=>
    clear hro hbw hTW;obtain ⟨h,rfl,hh,hown,hro,hbw,hTW⟩:=hrel;have hh0:=zi h;have hwr1:=Wi h (by omega);by_cases hlt:h<p.obs.length
    ·have hd1:=Dt (show (h:Int)<p.obs.length by omega)
     have hd2:=Dt hlt;have hjl:(h:Int)<(p.obs.length:Int):=by omega
     have HES:=hid (edgesTo_succ t h);have hel:=edgesTo_len t h;have c3:=World.rowIs.cell hro hlt;unfold sv at c3;generalize edgesTo t h=es at hown HES hel;have HLS:=hid (fun W=>list_any (t.getD h 0) W);unfold sv at HLS;have hll:=listM_len (t.getD h 0);obtain ⟨tx,htx⟩:∃ tx,t.getD h 0=tx:=⟨_,rfl⟩
     rw [htx] at c3 HES HLS hll;clear htx;generalize listM tx=ls at HES HLS hll;obtain ⟨A0,c0,rfl⟩:=own_form hown;go_wp2_with fail;refine (HLS.out _).mono ?_;rintro e w5 ⟨v5,rfl,hown5,hb5⟩;clear c3 HLS;have hE5:OwnE w5 (T+1) (.slice A0 es.length c0) es:=ownE_below hown hb5;have hr5:RowT p.obs.length T w5 t:=World.rowIs.of_block hro (hb5.block _ hTW);have hbw5:=hbw.trans (hb5.mono hbw.size);have hT5:T<w5.heap.size:=Nat.lt_of_lt_of_le hTW hb5.size;have hnl:(nats ls).length=ls.length:=by simp [nats]
     have hown1:w5.ownsRow wr.heap.size 3 1 v5 (nats ls).length (i64s (nats ls)):=hown5;rw [hnl] at hown1;have hlt5:∀ g,(Value.slice A0 es.length c0).ownBlock=some g→g<wr.heap.size:=fun g e=>(World.ownsRow.lt hown g e).2
     clear hown5 hown hro hbw hTW hb5;have hes:es.length≤256:=by omega
     have hls0:=zi (ls.length);rcases hown1.2 with ⟨rfl,h0⟩ | ⟨g,cap,cur,rfl,hgb,hgh,-⟩
     ·have HES2:Hid (edgesTo t (h+1)=es):=by
       show _=_;rw [HES.out,List.eq_nil_of_length_eq_zero h0];simp
      clear HES hown1 hll hls0 h0;go_upto_region 26 with fail;go_loopw [15,118] (fun a i wr=>i=.int .i64 0∧OwnE wr (T+1) a es∧RowT p.obs.length T wr t∧Below w.heap.size w wr∧T<wr.heap.size) (fun _ i _=>0)
      case atStart=>exact ⟨rfl,hE5,hr5,hbw5,hT5⟩
      case round=>
       clear hE5 hr5 hbw5 hT5;obtain ⟨rfl,hown,hro,hbw,hTW⟩:=hrel;go_wp2_with fail;go_round
       case rel=>exact ⟨h+1,rfl,by omega,by rw [HES2.out]; exact hown,hro,hbw,hTW⟩
       case measure=>exact ms (by omega)
     ·have hgc:∀ q (hq:q<ls.length),w5.cell? ⟨g,q,none⟩=some (.int .i64 (ls[q]:Nat)):=fun q hq=>by
       rw [hown1.cellAt q (by omega)];simp [i64s,nats,hq]
      have hgz:g<w5.heap.size:=(hown1.lt g rfl).2;have hgn:∀ k,(Value.slice A0 es.length c0).ownBlock=some k→k≠g:=fun k e=>by have:=hlt5 k e; omega
      have hE50:OwnE w5 (T+1) (.slice A0 es.length c0) (es++(ls.take 0).map (fun l=>(h,l))):=by simpa using hE5
      clear hown1 hgh hE5 hgb hlt5;go_upto_region 26 with fail;go_loopw [15,118] (fun a i wr=>∃ q:Nat,i=.int .i64 q∧q≤ls.length∧OwnE wr (T+1) a (es++(ls.take q).map (fun l=>(h,l)))∧RowT p.obs.length T wr t∧Below w.heap.size w wr∧T<wr.heap.size∧(∀ q (hq:q<ls.length),wr.cell? ⟨g,q,none⟩=some (.int .i64 (ls[q]:Nat)))∧g<wr.heap.size∧∀ k,a.ownBlock=some k→k≠g) (fun _ i _=>ls.length - (intOf i).toNat)
      case atStart=>exact ⟨0,rfl,by omega,hE50,hr5,hbw5,hT5,hgc,hgz,hgn⟩
      case round=>
       clear hE50 hr5 hbw5 hT5 hgc hgz hgn;obtain ⟨q,rfl,hq,hown,hro,hbw,hTW,hgc,hgz,hgn⟩:=hrel;have hq0:=zi q;have hwr2:=Wi q (by omega);by_cases hltq:q<ls.length
       ·have hd3:=Dt (show (q:Int)<ls.length by omega)
        have hd4:=Dt hltq;have hql:(q:Int)<(ls.length:Int):=by omega
        have g0:=hgc q hltq;have HGC:=hid hgc;clear hgc;have HNX:Hid (es++(ls.take (q+1)).map (fun l=>(h,l))=(es++(ls.take q).map (fun l=>(h,l)))++[(h,ls[q])]):=by show _=_; rw [take_one _ _ hltq,List.map_append,← List.append_assoc]; rfl
        have hnl2:(es++(ls.take q).map (fun l=>(h,l))).length≤300:=by
         have:=List.length_take_le q ls;simp only [List.length_append,List.length_map]; omega
        generalize es++(ls.take q).map (fun l=>(h,l))=cu at hown HNX hnl2;generalize ls[q]=x at g0 HNX;obtain ⟨A1,c1,rfl⟩:=own_form hown;have hown0:wr.ownsRow (T+1) 47 2 (.slice A1 cu.length c1) cu.length (eCells cu):=hown;have hmx:cu.length+1≤maxLen:=by unfold maxLen; omega
        have hby:(cu.length+1) * 16≤140737488355328:=by omega
        have hbs:T+1≤(wr.alloc (.cells #[.int .i64 (h:Int),.int .i64 (x:Int)] 47)).heap.size:=by simp; omega
        have hrd:Rd (wr.alloc (.cells #[.int .i64 (h:Int),.int .i64 (x:Int)] 47)) (wr.heap.size+1) 2 (some ⟨wr.heap.size,0,none⟩) 1 [.int .i64 (h:Int),.int .i64 (x:Int)]:=
         ⟨rfl,.inr ⟨wr.heap.size,0,rfl,by omega,fun j u hu=>by rw [Nat.zero_add]; exact bx_new wr #[.int .i64 (h:Int),.int .i64 (x:Int)] 47 j u hu⟩⟩
        have hba:=below_alloc wr (.cells #[.int .i64 (h:Int),.int .i64 (x:Int)] 47);have HON:=hid hown0;have HBA:=hid hba;clear hown hown0 hba;go_wp2_with (at_builtin; refine wpList_append_rd rfl (.tmp 122) (.tmp 126) _ rfl (T+1) 47 i0 (.agg #[.int .i64 0,.int .i64 0]) 2 16 Tryz.underlying42 hi hz0 hz1 hz2 rfl (by omega) _ _ _ rfl (World.ownsRow.alloc HON.out _) (wr.heap.size+1) (some ⟨wr.heap.size,0,none⟩) 1 1 _ rfl hrd (by simp [Value.oneCell']) hmx hby hbs ?_; intro v2 w3 hown2 hg2 hob2)
        have hE3:OwnE w3 (T+1) v2 (cu++[(h,x)]):=by
         unfold OwnE;rw [show eCells (cu++[(h,x)])=eCells cu++[.int .i64 (h:Int),.int .i64 (x:Int)] from by simp [eCells],List.length_append];exact hown2
        have hltT:∀ k,(Value.slice A1 cu.length c1).ownBlock=some k→T+1≤k:=fun k e=>(World.ownsRow.lt HON.out k e).1
        have hal:wr.heap.size<(wr.alloc (.cells #[.int .i64 (h:Int),.int .i64 (x:Int)] 47)).heap.size:=by simp
        have hr3:RowT p.obs.length T w3 t:=World.rowIs.of_block (World.rowIs.alloc hro _) (hg2.block T (by omega) (fun e=>by have:=hltT T e.symm; omega));have hb3:Below w.heap.size w w3:=(hbw.trans (HBA.out.mono hbw.size)).grown hg2 (by omega) (fun k e=>by have:=hltT k e; omega)
        have hc3:∀ q (hq:q<ls.length),w3.cell? ⟨g,q,none⟩=some (.int .i64 (ls[q]:Nat)):=fun q hq=>
         (World.cell?_of_block (hg2.block g (by omega) (fun e=>hgn g e.symm rfl))).trans ((HBA.out.cell (by show g<_; omega)).trans (HGC.out q hq))
        have hal2:(wr.alloc (.cells #[.int .i64 (h:Int),.int .i64 (x:Int)] 47)).heap.size=wr.heap.size+1:=by simp
        have hg3:g<w3.heap.size:=by have:=hg2.size; omega
        have hT3:T<w3.heap.size:=by have:=hg2.size; omega
        have hn3:∀ k,v2.ownBlock=some k→k≠g:=fun k e=>by
         rcases hob2 with z | z
         ·rw [z] at e; exact hgn k e
         ·rw [z,hal2] at e; injection e with e; omega
        exact ⟨⟨q+1,rfl,by omega,by rw [HNX.out]; exact hE3,hr3,hb3,hT3,hc3,hg3,hn3⟩,by simp [intOf]; omega⟩
       ·obtain rfl:q=ls.length:=by omega
        have hd3:=Df (show ¬ (ls.length:Int)<ls.length by omega);have hd4:=Df (show ¬ (ls.length<ls.length) by omega);rw [List.take_length] at hown;go_wp2_with fail;go_round
        case rel=>exact ⟨h+1,rfl,by omega,by rw [HES.out]; exact hown,hro,hbw,hTW⟩
        case measure=>exact ms (by omega)
    ·obtain rfl:h=p.obs.length:=by omega
     have hd1:=Df (show ¬ (p.obs.length:Int)<p.obs.length by omega);have hd2:=Df (show ¬ (p.obs.length<p.obs.length) by omega);rw [← HGE.out] at hown;go_wp2_with fail;go_ret2;exact ⟨_,rfl,World.ownsRow.mono hown (by omega),hbw⟩
end Go.Proofs.YtkpjdanfpolimaaGreat
