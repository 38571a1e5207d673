/- The reference's analyze, whole: it computes the least analysis. Conditions: the program is · The reference's matrix in memory. Conditions: none. · The reference's lock graph, walked: it is lockorder's. Conditions: the program is valid an ·  -/
import Derived.Test.YtkpjdanfpolimaaGreatLcRa9
import Derived.Test.YtkpjdanfpolimaaGreatLcRaA
import Derived.Test.YtkpjdanfpolimaaGreatLcLoC
import Derived.Deep.OwnRows
import Derived.Deep.LoopGhost
import Derived.Test.YtkpjdanfpolimaaGreatLcDg3
import Derived.Test.YtkpjdanfpolimaaGreatLcIns
set_option maxRecDepth 100000
set_option maxHeartbeats 12800000
namespace Go.Proofs.YtkpjdanfpolimaaGreat
section
open Go.RowKit Go.Shelf
theorem ranalyze_any (p:Prg) (hv:prgOk p) (w:World) (h:Lies w w.heap.size p):Calls Tryz.prog 49 #[p.val] w (RAnalyzed p w):=
 ranalyze_of p hv (fun W hW=>start_any p hv W hW) w h
end
section
open Go.RowKit Go.Shelf
def MatM (g:Nat) (T:List BS) (W:World):Prop:=∀ x,x<256→W.cell? ⟨g,x,none⟩=some (.bool (matB T x))∧W.frozen? ⟨g,x,none⟩=false
theorem MatM.next {g B:Nat} {T:List BS} {W W':World} (h:MatM g T W) (hb:Below B W W') (hg:g<B):MatM g T W':=fun x hx=>by
 obtain ⟨h1,h2⟩:=h x hx;exact ⟨(hb.cell (p:=⟨g,x,none⟩) hg).trans h1,(frozen_block (a:=⟨g,x,none⟩) (hb.block g hg)).trans h2⟩
theorem MatM.store {g:Nat} {T:List BS} {W:World} (h:MatM g T W) {k l:Nat} (hk:k<T.length) (hl:l<16):MatM g (T.set k (T.getD k 0 ||| bit l)) (W.setCell ⟨g,16 * k+l,none⟩ (.bool true)):=fun x hx=>by
 obtain ⟨h1,h2⟩:=h x hx;rw [matB_set hk hl,World.frozen?_setCell];refine ⟨?_,h2⟩;by_cases e:x=16 * k+l
 ·subst e
  rw [if_pos rfl,World.cell?_setCell_same _ _ _ h1]
 ·rw [if_neg e,World.cell?_setCell_other _ _ _ _ (fun z=>e (by injection z with z1 z2; exact z2.symm))]
  exact h1
theorem MatM.start {W:World} (n:Nat):MatM W.heap.size (List.replicate n 0) (W.alloc (.cells (madeCells #[.bool false] 256) 4)):=fun x hx=>by
 have e0:matB (List.replicate n 0) x=false:=by
  unfold matB;rw [List.getD_eq_getElem?_getD,List.getElem?_replicate];split <;> simp
 have hh:=heap_alloc_new W (.cells (madeCells #[.bool false] 256) 4);rw [e0];refine ⟨?_,?_⟩;rotate_left
 ·unfold World.frozen?; dsimp only; rw [hh]; simp
 simp only [World.cell?,hh]
 have:∀ x,x<256→(madeCells #[.bool false] 256)[x]? = some (.bool false):=by
  have hr:madeCells #[.bool false] 256=Array.replicate 256 (.bool false):=by kernel_rfl
  intro x hx;rw [hr,Array.getElem?_replicate,if_pos hx]
 simpa using this x hx
end
section
open Go.RowKit Go.Shelf
theorem toStep_listE (p:Prg) (s:S) (f:Nat) (t:List BS) (k:Nat):toStep p s f t k=match acq p (p.ins f k) with
  | none=>t
  | some l=>if (p.ins f k).op=51 then t else oneTo (p.ins f k) l t (listE (s.get (.at_ f k))) (listE (s.get (.at_ f k))).length:=by
 rw [toStep_eq]
 cases acq p (p.ins f k) with
 | none=>rfl
 | some l=>
  dsimp only;by_cases h51:(p.ins f k).op=51
  ·rw [if_pos (.inl h51),if_pos h51]
  ·rw [if_neg h51]
   cases hg:(s.get (.at_ f k)).1 with
   | false=>rw [if_pos (.inr rfl)]; unfold listE; rw [hg]; rfl
   | true=>rw [if_neg (by simp [h51])]; unfold listE; rw [hg]; rfl
theorem MatM.lt {g:Nat} {T:List BS} {W:World} (h:MatM g T W):g<W.heap.size:=block_lt_of_cell (h 0 (by decide)).1
structure GrI (p:Prg) (L:RLay) (w:World) (cs:List Value) (T:Nat) (M:List BS) (W:World):Prop where
 mem:RMem p L W (analysisR p)
 bx:Bx W w.heap.size cs
 mat:MatM T M W
 below:Below w.heap.size w W
 rng:w.heap.size<L.lo∧L.hi≤T
theorem GrI.next {p:Prg} {L:RLay} {w:World} {cs:List Value} {T:Nat} {M:List BS} {W W':World} (h:GrI p L w cs T M W) (hb:Below W.heap.size W W'):GrI p L w cs T M W':=by
 have h1:=h.mat.lt;have h2:=h.mem.hi;have h3:=h.rng;exact ⟨h.mem.below hb,h.bx.below hb (by omega),h.mat.next hb h1,h.below.trans (hb.mono h.below.size),h.rng⟩
theorem GrI.store {p:Prg} {L:RLay} {w:World} {cs:List Value} {T:Nat} {M:List BS} {W:World} (h:GrI p L w cs T M W) {k l:Nat} (hk:k<M.length) (hl:l<16) :
  GrI p L w cs T (M.set k (M.getD k 0 ||| bit l)) (W.setCell ⟨T,16 * k+l,none⟩ (.bool true)):=by
 have h2:=h.mem.hi;have h3:=h.rng;refine ⟨h.mem.below' ((Below.refl _ _).setCell (p:=⟨T,16 * k+l,none⟩) h3.2 _),fun j v hv=>?_,h.mat.store hk hl,h.below.setCell (p:=⟨T,16 * k+l,none⟩) (by show _≤T; omega) _,h.rng⟩;rw [World.cell?_setCell_far _ _ _ _ (by show T≠w.heap.size; omega)];exact h.bx j v hv
theorem matTo_len (T:List BS):∀ n,(matTo T n).length≤n
 | 0=>by simp [matTo]
 | n+1=>by
  have:=matTo_len T n;rw [matTo_succ];split
  ·rw [List.length_append,List.length_singleton]; omega
  ·omega
theorem graphR_eq {p:Prg} (hW:Wf p):graphOf p=matTo (funTo p (analysisR p) p.funs.length) 256:=by
 rw [matTo_edges (by rw [funTo_len]; exact hW.obs),← toM_eq];exact (graph_same hW).symm
theorem rgraphOf_any (p:Prg) (hv:prgOk p) (w:World) (h:Lies w w.heap.size p):Calls Tryz.prog 48 #[p.val] w fun e W=>∃ v,e=.returned v∧OwnE W w.heap.size v (graphOf p)∧Below w.heap.size w W:=by
 have hW:=wf_of hv;have hn:=hW.funs;have hob:=hW.obs;obtain ⟨i0,hi,hz⟩:=Option.map_eq_some_iff.1 edgeInfo;have hz0:i0.zero=some (.agg #[.int .i64 0,.int .i64 0]):=congrArg (fun t=>t.1) hz;have hz1:i0.size=2:=congrArg (fun t=>t.2.1) hz;have hz2:i0.bytes=16:=congrArg (fun t=>t.2.2) hz;clear hz;have hFI:=analysis_fine hW;have HAS:=hid (analysis_same hW);have HGE:=hid (graphR_eq hW);have HAN:=hid (fun (W:World) (hb:Below w.heap.size w W)=>ranalyze_any p hv W (h.next hb));have HAC:=hid (fun (W:World) (hb:Below w.heap.size w W) (i:Ins) (hi:i.op=57→Idx i.a p.obs.length)=>racq_any p i hi W (h.next hb));obtain ⟨b,off,hA,hbl,-⟩:=h.fn hn.1
 have hmk:∀ W:World,(Instr.makeSlice 82 (.int .i64 256) (.int .i64 256)).run Tryz.prog W=.ok (.slice (some ⟨W.heap.size,0,none⟩) 256 256) (W.alloc (.cells (madeCells #[.bool false] 256) 4)):=fun W=>run_make_row' (P:=Tryz.prog) 82 4 (.bool false) 1 Tryz.underlying82 (by kernel_rfl) rfl .i64 .i64 256 (by omega) (by omega) W
 unfold Prg.val at HAC HAN ⊢;rw [hA] at HAC HAN ⊢;have HA:=hid hA;have HW:=hid hW;clear h hA hW;have hT:=one_new w #[.slice (some ⟨b,off,none⟩) p.funs.length p.funC,.slice p.obA p.obs.length p.obC,.slice p.vrA p.vrs.length p.vrC] 26;go_enter Tryz.func48,Tryz.ntmps48;go_upto_region 1 with fail;generalize w.alloc _=w1 at hT ⊢;obtain ⟨x0,x1,x2⟩:=bx3 hT.fst;have HL1:=hid (HAN.out w1 hT.below);go_wp2_with fail;refine (HL1.out).mono ?_;rintro e w2 ⟨L,rfl,hm2,hlo,hb2⟩;clear x0 x1 x2 HL1;have hT2:=hT.next hb2;have hs1:=hT.size;clear hT;go_upto_region 3 with fail
 have hG0:GrI p L w [.slice (some ⟨b,off,none⟩) p.funs.length p.funC,.slice p.obA p.obs.length p.obC,.slice p.vrA p.vrs.length p.vrC] w2.heap.size (funTo p (analysisR p) 0) (w2.alloc (.cells (madeCells #[.bool false] 256) 4)):=by
  have hba:=below_alloc w2 (.cells (madeCells #[.bool false] 256) 4);have hT3:=hT2.next hba;exact ⟨hm2.below hba,hT3.fst,MatM.start p.obs.length,hT3.below,by omega,hm2.hi.2⟩
 clear hT2 hm2 hb2 hmk;generalize World.alloc w2 _=wa at hG0 ⊢;generalize w2.heap.size=T at hG0 ⊢;clear hs1 hlo;go_upto_region 4 with fail;go_loopw [5] (fun i wr=>∃ j:Nat,i=.int .i64 j∧j≤p.funs.length∧GrI p L w [.slice (some ⟨b,off,none⟩) p.funs.length p.funC,.slice p.obA p.obs.length p.obC,.slice p.vrA p.vrs.length p.vrC] T (funTo p (analysisR p) j) wr) (fun i _=>p.funs.length - (intOf i).toNat)
 case atStart=>exact ⟨0,rfl,by omega,hG0⟩
 case round=>
  clear hG0;obtain ⟨f,rfl,hf,hG⟩:=hrel;have hf0:=zi f;have hwr1:=Wi f (by omega);obtain ⟨x0,x1,x2⟩:=bx3 hG.bx;by_cases hlt:f<p.funs.length
  ·have hd1:=Dt (show (f:Int)<p.funs.length by omega)
   have hd2:=Dt hlt;have hfl:(f:Int)<(p.funs.length:Int):=by omega
   have hlen:=HW.out.len f hlt;have HSU:=hid (funTo_succ p (analysisR p) f);have hrl:=funTo_len p (analysisR p) f;generalize funTo p (analysisR p) f=t0 at hG HSU hrl;have HRL:=hid hrl;clear hrl;go_upto_region 7 with fail;clear x0 x1 x2;go_loopw [6] (fun i wr=>∃ k:Nat,i=.int .i64 k∧k≤p.len f∧GrI p L w [.slice (some ⟨b,off,none⟩) p.funs.length p.funC,.slice p.obA p.obs.length p.obC,.slice p.vrA p.vrs.length p.vrC] T (rowTo p (analysisR p) f t0 k) wr) (fun i _=>p.len f - (intOf i).toNat)
   case atStart=>exact ⟨0,rfl,by omega,hG⟩
   case round=>
    clear hG;obtain ⟨k,rfl,hk,hG⟩:=hrel;have hk0:=zi k;have hwr2:=Wi k (by omega);have c3:=hG.mem.c3;have ob:=hG.mem.outB f hlt;by_cases hltk:k<p.len f
    ·have hd3:=Dt (show (k:Int)<p.len f by omega)
     have hd4:=Dt hltk;have hkl:(k:Int)<(p.len f:Int):=by omega
     have HRS:=hid (rowTo_succ p (analysisR p) f t0 k);have hrl:=rowTo_len p (analysisR p) f t0 k;rw [HRL.out] at hrl;have HSE:=hid (toStep_listE p (analysisR p) f (rowTo p (analysisR p) f t0 k) k);generalize rowTo p (analysisR p) f t0 k=t1 at hG HRS hrl HSE;have HII:=hid (HW.out.ins f k hlt hltk)
     have HLI:=hid (fun x (hx:x∈listE ((analysisR p).get (.at_ f k)))=>(show x<p.obs.length from by
      rw [HAS.out] at hx;unfold listE at hx;split at hx
      ·obtain ⟨o,ho,-⟩:=hFI.get (.at_ f k) x (listM_lt hx).2
       exact (List.getElem?_eq_some_iff.1 ho).1
      ·cases hx))
     obtain ⟨b0,off0,b2,off2,hA0,hb0,hb2,-,d5,q0,q1,q2,q3,q4⟩:=hG.mem.prog.at_ hlt hltk;rw [HA.out] at hA0;injection hA0 with hA0;injection hA0 with h1 h2;subst h1;subst h2;obtain ⟨x0,x1,x2⟩:=bx3 hG.bx;have cs:=(hG.mem.slot (.at_ f k) ⟨hlt,hltk⟩).1;replace cs:wr.cell? ⟨L.bb f,k,none⟩=_:=cs;have hrng:=hG.rng;have hTl:=hG.mat.lt;have hLl:=hG.mem.hi;go_upto_region 10 with fail;have hbi:=below_alloc wr (.cells #[.int .i64 (p.ins f k).op,.int .i64 (p.ins f k).a,.int .i64 (p.ins f k).b,.int .i64 (p.ins f k).c,.slice (p.ins f k).argA (p.ins f k).args.length (p.ins f k).argC] 63);have hX:=bx_new wr #[.int .i64 (p.ins f k).op,.int .i64 (p.ins f k).a,.int .i64 (p.ins f k).b,.int .i64 (p.ins f k).c,.slice (p.ins f k).argA (p.ins f k).args.length (p.ins f k).argC] 63;have hGi:=hG.next hbi
     have hzZ:wr.heap.size<(World.alloc wr (.cells #[.int .i64 (p.ins f k).op,.int .i64 (p.ins f k).a,.int .i64 (p.ins f k).b,.int .i64 (p.ins f k).c,.slice (p.ins f k).argA (p.ins f k).args.length (p.ins f k).argC] 63)).heap.size:=by simp
     clear q0 q1 q2 q3 q4 d5 hbi hG cs c3 ob x0 x1 x2;generalize World.alloc wr _=wi at hX hGi hzZ ⊢;generalize wr.heap.size=Z at hX hzZ hTl hLl ⊢;obtain ⟨z0,z1,z2,z3,z4⟩:=bx5 hX;obtain ⟨x0,x1,x2⟩:=bx3 hGi.bx;have HC:=HAC.out wi hGi.below (p.ins f k) (fun e=>(HII.out.wait e).1);unfold Ins.val Ins.cells at HC
     cases hq:acq p (p.ins f k) with
     | none=>
      have e6:racqVal p (p.ins f k)=.tuple #[.int .i64 (-1),.bool false]:=by unfold racqVal; rw [hq]
      have HE:Hid (rowTo p (analysisR p) f t0 (k+1)=t1):=by show _=_; rw [HRS.out,HSE.out,hq]
      rw [e6] at HC;have HC:=hid HC;clear hq e6;go_wp2_with fail;refine HC.out.mono ?_;rintro e wk ⟨rfl,hbn⟩;clear z0 z1 z2 z3 z4 x0 x1 x2;have hGn:=hGi.next hbn;clear hGi hX;go_wp2_with fail;go_round
      case rel=>exact ⟨k+1,rfl,by omega,by rw [HE.out]; exact hGn⟩
      case measure=>exact ms (by omega)
     | some l=>
      obtain ⟨⟨hl0,hl1⟩,-⟩:=acq_idx HII.out hq;obtain ⟨m,rfl⟩:∃ m:Nat,l=m:=⟨l.toNat,by omega⟩
      have hm16:m<16:=by omega
      have e6:racqVal p (p.ins f k)=.tuple #[.int .i64 (m:Int),.bool (decide ((p.ins f k).op≠51))]:=by unfold racqVal; rw [hq]
      have HE:Hid (rowTo p (analysisR p) f t0 (k+1)=if (p.ins f k).op=51 then t1 else oneTo (p.ins f k) (m:Int) t1 (listE ((analysisR p).get (.at_ f k))) (listE ((analysisR p).get (.at_ f k))).length):=by show _=_; rw [HRS.out,HSE.out,hq]
      rw [e6] at HC;clear hq e6 hl0 hl1;by_cases h51:(p.ins f k).op=51
      ·have HE2:Hid (rowTo p (analysisR p) f t0 (k+1)=t1):=by show _=_; rw [HE.out,if_pos h51]
       rw [decide_eq_false (fun z=>z h51)] at HC;have HC:=hid HC;clear h51 HE;go_wp2_with fail;refine HC.out.mono ?_;rintro e wk ⟨rfl,hbn⟩;clear z0 z1 z2 z3 z4 x0 x1 x2;have hGn:=hGi.next hbn;clear hGi hX;go_wp2_with fail;go_round
       case rel=>exact ⟨k+1,rfl,by omega,by rw [HE2.out]; exact hGn⟩
       case measure=>exact ms (by omega)
      ·have HE2:Hid (rowTo p (analysisR p) f t0 (k+1)=oneTo (p.ins f k) (m:Int) t1 (listE ((analysisR p).get (.at_ f k))) (listE ((analysisR p).get (.at_ f k))).length):=by show _=_; rw [HE.out,if_neg h51]
       rw [decide_eq_true h51] at HC;have HC:=hid HC;clear h51 HE;go_wp2_with fail;refine HC.out.mono ?_;rintro e wk ⟨rfl,hbn⟩;clear z0 z1 z2 z3 z4 x0 x1 x2;have hGn:=hGi.next hbn;have hXn:=hX.below hbn hzZ;have hzZn:Z<wk.heap.size:=Nat.lt_of_lt_of_le hzZ hbn.size;clear hGi hX hbn hzZ;have c3:=hGn.mem.c3;have ob:=hGn.mem.outB f hlt;have cs:=(hGn.mem.slot (.at_ f k) ⟨hlt,hltk⟩).1;replace cs:wk.cell? ⟨L.bb f,k,none⟩=_:=cs;generalize (analysisR p).get (.at_ f k)=v at cs HE2 HLI;have HLS:=hid (fun W=>relem_any v W)
       have hll:(listE v).length≤16:=by
        unfold listE;split
        ·exact listM_len _
        ·simp
       generalize rv v=rvv at cs HLS;generalize listE v=ls at HLI HLS HE2 hll;have HO:=hid (fun q (hq:q<ls.length)=>oneTo_succ (p.ins f k) (m:Int) t1 ls hq);have HOL:=hid (fun q=>oneTo_len (p.ins f k) (m:Int) t1 ls q);go_wp2_with fail;refine (HLS.out _).mono ?_;rintro e w5 ⟨v5,rfl,hown,hb5⟩;clear c3 ob cs HLS;have hG5:=hGn.next hb5;have hX5:=hXn.below hb5 hzZn;have hTw:=hGn.mat.lt;clear hGn hXn hb5;have hnl:(nats ls).length=ls.length:=by simp [nats]
       have hown1:w5.ownsRow wk.heap.size 3 1 v5 (nats ls).length (i64s (nats ls)):=hown;rw [hnl] at hown1;clear hown;rcases hown1.2 with ⟨rfl,h0⟩ | ⟨g,cap,cur,rfl,hgb,-⟩
       ·have HE3:Hid (rowTo p (analysisR p) f t0 (k+1)=t1):=by show _=_; rw [HE2.out,h0]; rfl
        clear HE2 hown1;go_upto_region 14 with fail;go_loopw [11] (fun i wr=>i=.int .i64 0∧wr=w5) (fun _ _=>0)
        case atStart=>exact ⟨rfl,rfl⟩
        case round=>
         obtain ⟨rfl,rfl⟩:=hrel;go_wp2_with fail;go_round
         case rel=>exact ⟨k+1,rfl,by omega,by rw [HE3.out]; exact hG5⟩
         case measure=>exact ms (by omega)
       ·have hgc:∀ q (hq:q<ls.length),w5.cell? ⟨g,q,none⟩=some (.int .i64 (ls[q]:Nat)):=fun q hq=>by
         rw [hown1.cellAt q (by omega)];simp [i64s,nats,hq]
        have hgT:T<g:=by omega
        clear hown1 hgb;go_upto_region 14 with fail;have hls0:=zi (ls.length);go_loopw [11] (fun i wr=>∃ q:Nat,i=.int .i64 q∧q≤ls.length∧GrI p L w [.slice (some ⟨b,off,none⟩) p.funs.length p.funC,.slice p.obA p.obs.length p.obC,.slice p.vrA p.vrs.length p.vrC] T (oneTo (p.ins f k) (m:Int) t1 ls q) wr∧Bx wr Z [.int .i64 (p.ins f k).op,.int .i64 (p.ins f k).a,.int .i64 (p.ins f k).b,.int .i64 (p.ins f k).c,.slice (p.ins f k).argA (p.ins f k).args.length (p.ins f k).argC]∧∀ q (hq:q<ls.length),wr.cell? ⟨g,q,none⟩=some (.int .i64 (ls[q]:Nat))) (fun i _=>ls.length - (intOf i).toNat)
        case atStart=>exact ⟨0,rfl,by omega,hG5,hX5,hgc⟩
        case round=>
         clear hG5 hX5 hgc;obtain ⟨q,rfl,hq,hG,hX,hgc⟩:=hrel;have hq0:=zi q;have hwr3:=Wi q (by omega);by_cases hltq:q<ls.length
         ·have hd5:=Dt (show (q:Int)<ls.length by omega)
          have hd6:=Dt hltq;have hql:(q:Int)<(ls.length:Int):=by omega
          have g0:=hgc q hltq;have HGC:=hid hgc;clear hgc;have HON:Hid (oneTo (p.ins f k) (m:Int) t1 ls (q+1)=_):=hid (HO.out q hltq);have hol:=HOL.out q;have hxn:=HLI.out _ (List.getElem_mem hltq);generalize ls[q]=x at g0 HON hxn;generalize oneTo (p.ins f k) (m:Int) t1 ls q=t2 at hG HON hol;obtain ⟨z0,z1,z2,z3,z4⟩:=bx5 hX;have hx0:=zi x;obtain ⟨y,hy⟩:∃ y,16 * x+m=y:=⟨_,rfl⟩
          have hwm:IntKind.i64.wrap (16 * (x:Int))=16 * (x:Int):=by rw [IntKind.wrap_i64]; omega
          have hwa:IntKind.i64.wrap (16 * (x:Int)+(m:Int))=(y:Int):=by rw [IntKind.wrap_i64]; omega
          have hy0:=zi y;have hy1:(y:Int)<256:=by omega
          have hy2:y<256:=by omega
          obtain ⟨cy,fy⟩:=hG.mat y hy2;have hG2:=hG.store (k:=x) (l:=m) (by omega) hm16;rw [hy] at hG2;have HG2:=hid hG2;have HG1:=hid hG
          have HX2:Hid (Bx (wr.setCell ⟨T,y,none⟩ (.bool true)) Z [.int .i64 (p.ins f k).op,.int .i64 (p.ins f k).a,.int .i64 (p.ins f k).b,.int .i64 (p.ins f k).c,.slice (p.ins f k).argA (p.ins f k).args.length (p.ins f k).argC]):=hid (fun j u hu=>by
           rw [World.cell?_setCell_far _ _ _ _ (by show T≠Z; omega)];exact hX j u hu)
          have HX1:=hid hX;have HY:=hid hy;clear hG hG2 hX hy;by_cases h57:(p.ins f k).op=57
          ·have e2:((p.ins f k).op != 57)=false:=by simpa using h57
           by_cases hxm:(x:Int)=(m:Int)
           ·have e1:((x:Int) != (m:Int))=false:=by simpa using hxm
            have HON2:Hid (oneTo (p.ins f k) (m:Int) t1 ls (q+1)=t2):=by show _=_; rw [HON.out]; unfold toOne; rw [if_neg (fun z=>z.elim (fun z=>z hxm) (fun z=>z h57))]
            clear HON h57 hxm;go_wp2_with fail;go_round
            case rel=>exact ⟨q+1,rfl,by omega,by rw [HON2.out]; exact HG1.out,HX1.out,HGC.out⟩
            case measure=>exact ms (by omega)
           ·have e1:((x:Int) != (m:Int))=true:=by simpa using hxm
            have HON2:Hid (oneTo (p.ins f k) (m:Int) t1 ls (q+1)=t2.set x (t2.getD x 0 ||| bit m)):=by show _=_; rw [HON.out]; unfold toOne; rw [if_pos (.inl hxm)]; rfl
            clear HON h57 hxm;go_wp2_with fail;go_round
            case rel=>exact ⟨q+1,rfl,by omega,by rw [HON2.out]; exact HG2.out,HX2.out,fun q hq=>(World.cell?_setCell_far _ _ _ _ (by show T≠g; omega)).trans (HGC.out q hq)⟩
            case measure=>exact ms (by omega)
          ·have e2:((p.ins f k).op != 57)=true:=by simpa using h57
           have HON2:Hid (oneTo (p.ins f k) (m:Int) t1 ls (q+1)=t2.set x (t2.getD x 0 ||| bit m)):=by show _=_; rw [HON.out]; unfold toOne; rw [if_pos (.inr h57)]; rfl
           clear HON h57;go_wp2_with fail;go_round
           case rel=>exact ⟨q+1,rfl,by omega,by rw [HON2.out]; exact HG2.out,HX2.out,fun q hq=>(World.cell?_setCell_far _ _ _ _ (by show T≠g; omega)).trans (HGC.out q hq)⟩
           case measure=>exact ms (by omega)
         ·have hqe:q=ls.length:=by omega
          have hd5:=Df (show ¬ (q:Int)<ls.length by omega);have hd6:=Df hltq;have HQE:=hid hqe;clear hqe;go_wp2_with fail;go_round
          case rel=>exact ⟨k+1,rfl,by omega,by rw [HE2.out,← HQE.out]; exact hG⟩
          case measure=>exact ms (by omega)
    ·have hke:k=p.len f:=by omega
     have hd3:=Df (show ¬ (k:Int)<p.len f by omega);have hd4:=Df hltk;have HKE:=hid hke;clear hke;go_wp2_with fail;go_round
     case rel=>exact ⟨f+1,rfl,by omega,by rw [HSU.out,← HKE.out]; exact hG⟩
     case measure=>exact ms (by omega)
  ·have hfe:f=p.funs.length:=by omega
   have hd1:=Df (show ¬ (f:Int)<p.funs.length by omega);have hd2:=Df hlt;rw [hfe] at hG;have htl:=funTo_len p (analysisR p) p.funs.length;generalize funTo p (analysisR p) p.funs.length=t at hG HGE htl;have hTl:=hG.mat.lt;have hrng:=hG.rng;have hLl:=hG.mem.hi;clear hfe;go_upto_region 19 with fail;have hO:OwnE (wr.alloc (.cells #[] 47)) (T+1) (.slice (some ⟨wr.heap.size,0,none⟩) 0 0) (matTo t 0):=World.ownsRow_lit (e:=47) wr #[] 0 (by omega) (by decide) rfl;have hG2:=hG.next (below_alloc wr (.cells #[] 47));clear x0 x1 x2 hG;generalize wr.alloc _=W1 at hO hG2 ⊢;generalize (Value.slice (some ⟨wr.heap.size,0,none⟩) 0 0)=u0 at hO ⊢;have hM1:=hG2.mat;have hB1:=hG2.below;clear hG2;go_upto_region 20 with fail
   go_loopw [12,13] (fun a i wr=>∃ x:Nat,i=.int .i64 x∧x≤256∧OwnE wr (T+1) a (matTo t x)∧MatM T t wr∧Below w.heap.size w wr) (fun _ i _=>256 - (intOf i).toNat)
   case atStart=>exact ⟨0,rfl,by omega,hO,hM1,hB1⟩
   case round=>
    clear hO hM1 hB1;obtain ⟨x,rfl,hx,hown,hM,hB⟩:=hrel;have hx0:=zi x;have hwr1:=Wi x (by omega);have hTW:=hM.lt;by_cases hlt9:x<256
    ·have hd1:=Dt (show (x:Int)<256 by omega)
     have hd2:=Dt hlt9;have hxl:(x:Int)<256:=by omega
     obtain ⟨cx,-⟩:=hM x hlt9;have hms:=matTo_succ t x;have hml:=matTo_len t x;generalize matTo t x=cu at hown hms hml
     cases hbit:matB t x with
     | false=>
      rw [hbit] at cx;have HMS:=hid (show matTo t (x+1)=cu from by rw [hms,hbit]; rfl);clear hms hbit;go_wp2_with fail;go_round
      case rel=>exact ⟨x+1,rfl,by omega,by rw [HMS.out]; exact hown,hM,hB⟩
      case measure=>exact ms (by omega)
     | true=>
      rw [hbit] at cx;have HMS:=hid (show matTo t (x+1)=cu++[(x / 16,x % 16)] from by rw [hms,hbit]; rfl);clear hms hbit;have hq1:(x:Int).tdiv 16=((x / 16:Nat):Int):=by rw [Int.tdiv_eq_ediv_of_nonneg hx0]; omega
      have hq2:(x:Int).tmod 16=((x % 16:Nat):Int):=by rw [Int.tmod_eq_emod_of_nonneg hx0]; omega
      obtain ⟨xa,hxa⟩:∃ xa,x / 16=xa:=⟨_,rfl⟩
      obtain ⟨xb,hxb⟩:∃ xb,x % 16=xb:=⟨_,rfl⟩
      rw [hxa] at hq1 HMS;rw [hxb] at hq2 HMS;have hwq:IntKind.i64.wrap (xa:Int)=(xa:Int):=by rw [IntKind.wrap_i64]; omega
      obtain ⟨A1,c1,rfl⟩:=own_form hown;have hown0:wr.ownsRow (T+1) 47 2 (.slice A1 cu.length c1) cu.length (eCells cu):=hown;have hmx:cu.length+1≤maxLen:=by unfold maxLen; omega
      have hby:(cu.length+1) * 16≤140737488355328:=by omega
      have hbs:T+1≤(wr.alloc (.cells #[.int .i64 (xa:Int),.int .i64 (xb:Int)] 47)).heap.size:=by simp; omega
      have hrd:Rd (wr.alloc (.cells #[.int .i64 (xa:Int),.int .i64 (xb:Int)] 47)) (wr.heap.size+1) 2 (some ⟨wr.heap.size,0,none⟩) 1 [.int .i64 (xa:Int),.int .i64 (xb:Int)]:=
       ⟨rfl,.inr ⟨wr.heap.size,0,rfl,by omega,fun j u hu=>by rw [Nat.zero_add]; exact bx_new wr #[.int .i64 (xa:Int),.int .i64 (xb:Int)] 47 j u hu⟩⟩
      have hba:=below_alloc wr (.cells #[.int .i64 (xa:Int),.int .i64 (xb:Int)] 47);have HON:=hid hown0;have HBA:=hid hba;have HXA:=hid hxa;have HXB:=hid hxb;clear hown hown0 hba hxa hxb;go_wp2_with (at_builtin; refine wpList_append_rd rfl (.tmp 101) (.tmp 107) _ rfl (T+1) 47 i0 (.agg #[.int .i64 0,.int .i64 0]) 2 16 Tryz.underlying42 hi hz0 hz1 hz2 rfl (by omega) _ _ _ rfl (World.ownsRow.alloc HON.out _) (wr.heap.size+1) (some ⟨wr.heap.size,0,none⟩) 1 1 _ rfl hrd (by simp [Value.oneCell']) hmx hby hbs ?_; intro v2 w3 hown2 hg2 hob2)
      have hE3:OwnE w3 (T+1) v2 (cu++[(xa,xb)]):=by
       unfold OwnE;rw [show eCells (cu++[(xa,xb)])=eCells cu++[.int .i64 (xa:Int),.int .i64 (xb:Int)] from by simp [eCells],List.length_append];exact hown2
      have hltT:∀ k,(Value.slice A1 cu.length c1).ownBlock=some k→T+1≤k:=fun k e=>(World.ownsRow.lt HON.out k e).1
      have hb3:Below w.heap.size w w3:=(hB.trans (HBA.out.mono hB.size)).grown hg2 (by have:=hrng; omega) (fun k e=>by have:=hltT k e; omega)
      have hM3:MatM T t w3:=fun y hy=>by
       have e1:w3.heap[T]? = wr.heap[T]?:=(hg2.block T (by simp; omega) (fun e=>by have:=hltT T e.symm; omega)).trans (HBA.out.block T hTW);obtain ⟨m1,m2⟩:=hM y hy;exact ⟨(World.cell?_of_block e1).trans m1,(frozen_block (a:=⟨T,y,none⟩) e1).trans m2⟩
      exact ⟨⟨x+1,rfl,by omega,by rw [HMS.out]; exact hE3,hM3,hb3⟩,by simp [intOf]; omega⟩
    ·obtain rfl:x=256:=by omega
     rw [← HGE.out] at hown;go_wp2_with fail;go_ret;exact ⟨_,rfl,World.ownsRow.mono hown (by omega),hB⟩
end
section
open Go.RowKit Go.Shelf
attribute [local go_sem] Oper.semAt_some
def visV (M:Nat):Value:=.func (.func 77) #[] #[.pointer (some ⟨M+2,0,none⟩),.pointer (some ⟨M,0,none⟩),.pointer (some ⟨M+3,0,none⟩)]
structure Vis (M n N:Nat) (l:List (Nat × Nat)) (s:Nat→Bool) (W:World):Prop where
 net:Net W M N n l
 gb:Bx W M [.int .i64 n,.slice (some ⟨N,0,none⟩) n n]
 row:W.rowIs (M+1) 4 n (fun v=>.bool (s v))
 sb:Bx W (M+2) [.slice (some ⟨M+1,0,none⟩) n n]
 vb:Bx W (M+3) [visV M]
 size:M+4≤W.heap.size
theorem Vis.next {M n N B:Nat} {l:List (Nat × Nat)} {s:Nat→Bool} {W W':World} (h:Vis M n N l s W) (hb:Below B W W') (hB:M+4≤B):Vis M n N l s W':=
 ⟨h.net.below' hb (by omega),h.gb.below hb (by omega),h.row.of_block (hb.block _ (by omega)),h.sb.below hb (by omega),h.vb.below hb (by omega),Nat.le_trans h.size hb.size⟩
theorem Vis.set {M n N:Nat} {l:List (Nat × Nat)} {s t:Nat→Bool} {W:World} (h:Vis M n N l s W) (x:Nat) (b:Bool) (hg:∀ i,i<n→(if i=x then b else s i)=t i):Vis M n N l t (W.setCell ⟨M+1,x,none⟩ (.bool b)):=
 have hb:Below (M+1) W (W.setCell ⟨M+1,x,none⟩ (.bool b)):=(Below.refl _ _).setCell (p:=⟨M+1,x,none⟩) (Nat.le_refl _) _
 ⟨h.net.below' hb (by omega),h.gb.below hb (by omega),(h.row.set x _).congr (fun i hi=>by rw [← hg i hi]; split <;> rfl),fun j u hu=>(World.cell?_setCell_far _ _ _ _ (by show M+1≠M+2; omega)).trans (h.sb j u hu),fun j u hu=>(World.cell?_setCell_far _ _ _ _ (by show M+1≠M+3; omega)).trans (h.vb j u hu),by simpa using h.size⟩
def VisR (M n N:Nat) (l:List (Nat × Nat)) (s:Nat→Bool) (us:List Nat) (w:World):Ending→World→Prop:=fun e W=>e=.returned (.tuple #[])∧∃ t,Seen l us s t∧Vis M n N l t W∧Turn (M+1) (M+2) w W
theorem reach1_any (M n N:Nat) (l:List (Nat × Nat)) (hl:l.length≤2000) (hr:EdR n l):∀ (k:Nat) (s:Nat→Bool) (u:Nat) (W:World),blind n s<k→u<n→Vis M n N l s W →
  Calls Tryz.prog 77 #[.int .i64 u,.pointer (some ⟨M+2,0,none⟩),.pointer (some ⟨M,0,none⟩),.pointer (some ⟨M+3,0,none⟩)] W (VisR M n N l s [u] W):=by
 intro k
 induction k with
 | zero=>exact fun s u w hk=>absurd hk (by omega)
 | succ k ih=>
  intro s u w hk hu hV;have c0:=hV.row.cell hu;have f0:=hV.row.frozen u;have s0:=hV.sb 0 _ rfl;have hu0:=zi u;have hu1:(u:Int)<(n:Int):=by omega
  have hz:=hV.size;refine (callsIn_wide (n:=4)).1 (callsIn_of_wp_marks Tryz.func77 rfl trivial ?_ rfl);simp only [Tryz.ntmps77,List.size_toArray,List.length_cons,List.length_nil,Nat.reduceAdd,Nat.reduceSub,Array.replicate_succ,Array.replicate_zero,List.push_toArray,List.append_toArray,List.nil_append,List.cons_append]
  cases hs:s u with
  | true=>
   rw [hs] at c0;gi_wp2
   exact leaves_marks [] w (Marks.nil 0 w) (fun W' hT=>by
    have hb:=hT.below (Marks.nil w.heap.size w);exact ⟨_,results_none rfl _ _ _,rfl,s,Seen.seen hs,hV.next hb hz,Turn.of_below hb⟩)
  | false=>
   rw [hs] at c0;gi_upto_region 2 with fail;have hV1:=hV.set u true (t:=fun v=>if v=u then true else s v) (fun i _=>rfl);have hT1:Turn (M+1) (M+2) w (w.setCell ⟨M+1,u,none⟩ (.bool true)):=(Turn.refl (M+1) (M+2) w).setCell (a:=⟨M+1,u,none⟩) ⟨Nat.le_refl _,by show M+1<M+2; omega⟩ _;clear c0 f0 s0 hV;generalize w.setCell ⟨M+1,u,none⟩ _=W1 at hV1 hT1 ⊢;have g0:=hV1.gb 0 _ rfl;have g1:=hV1.gb 1 _ rfl;have hz1:=hV1.size;gi_wp2;refine ⟨trivial,(callsIn_wide.2 (succ_any n N u W1)).mono ?_⟩;rintro e W3 ⟨rfl,rfl⟩;have hbS:=succObjs_below n N u W1;have hzS:=succObjs_size n N u W1;have hmS:=succObjs_mem (M+1) n N u l W1 (hV1.net.more (by omega)) (by omega);have hV3:=hV1.next hbS (by omega);have hT3:=hT1.below2 hbS hT1.size;have hwb:=hT1.size;clear hV1 hT1 g0 g1 hbS
   generalize succObjs n N u W1=W3 at hzS hmS hV3 hT3 ⊢;generalize W1.heap.size=b0 at hzS hmS hz1 hwb ⊢;unfold succVal;gi_wp2
   refine wpIn_rangeFunc_ac rfl (by omega) (gf:=75) (lb:=#[.pointer (some ⟨b0,0,none⟩),.pointer (some ⟨b0+1,0,none⟩)]) rfl trivial (enters_of Tryz.func75 (by kernel_rfl) rfl)
    (succ_stops 3 (by omega) (M+1) (M+2) n N l b0 u (by omega) hu hl W3 hmS (by omega))
    (fun h k=>h.trans k) (fun W l o o' _ hl hc _=>CellsKept.putObj o' hl hc) (Below.refl _ _) (fun _=>rfl)
    (fun A' B' k o hab _ ho hc=>hab.rec_ k o ho hc)
    (fun pre W=>∃ t:Nat→Bool,Seen l pre (fun v=>if v=u then true else s v) t∧Vis M n N l t W∧Turn (M+1) (M+2) w W∧b0+2≤W.heap.size) (fun _ _ _=>False)
    (fun pre W W' row hs hg hr=>by
     obtain ⟨t,h0,h1,h2,h3⟩:=hs;have hbw:=below_grownFrom (B:=b0+2) hg (fun r e=>by have:=(hr r e).1; omega) h3;exact ⟨t,h0,h1.next hbw (by omega),h2.below2 hbw (by omega),Nat.le_trans h3 hg.size⟩)
    (fun _=>fun _ _ _ _ h _ _=>h)
    (fun pre A' B' hs hab=>by
     obtain ⟨t,h0,h1,h2,h3⟩:=hs;exact ⟨t,h0,h1.next hab.below (by omega),h2.below2 hab.below (by omega),Nat.le_trans h3 hab.below.size⟩)
    ⟨_,Seen.nil l _,hV3,hT3,by omega⟩
    (fun x a' _=>a'=⟨((.int .i64 u:Value)::.pointer (some ⟨M+2,0,none⟩)::.pointer (some ⟨M,0,none⟩)::.pointer (some ⟨M+3,0,none⟩)::undef::.int .i64 (x:Nat)::.slice (some ⟨M+1,0,none⟩) n n::.int .i64 u::.pointer (some ⟨M+1,u,none⟩)::.bool false::.slice (some ⟨M+1,0,none⟩) n n::.int .i64 u::.pointer (some ⟨M+1,u,none⟩)::.agg #[.int .i64 n,.slice (some ⟨N,0,none⟩) n n]::.int .i64 u::.func (.func 75) #[] #[.pointer (some ⟨b0,0,none⟩),.pointer (some ⟨b0+1,0,none⟩)]::.int .i64 (x:Nat)::undef::undef::undef::[]).toArray,[]⟩) (fun _ _ _ _ _ hs _ _=>hs) ?assign ?body ?done ?stop
   case assign=>
    rintro lp pre x W K hJ hK';gi_wp2;exact hK' _ _ (KeepsFrom.refl _ _) (CellsKept.refl _ _ _) hJ rfl
   case stop=>rintro D c' pre W hD _ hno hK'; exact hno.elim
   case body=>
    rintro lp pre x a' W ⟨t,h0,h1,h2,h3⟩ rfl hpre;have hxe:(u,x)∈l:=mem_succs.1 (hpre.subset (by simp));have hxn:x<n:=(hr _ hxe).2
    have hbt:blind n t<k:=by
     have e1:=blind_more (n:=n) h0.more;have e2:=blind_lt hu hs;omega
    have v0:=h1.vb 0 _ rfl;unfold visV at v0;gi_wp2;refine ⟨trivial,CallsIn.inRound lp (callsIn_wide.2 ((ih t x W hbt hxn h1).mono ?_))⟩;rintro e W5 ⟨rfl,t5,k1,k2,k3⟩;gi_wp2;exact ⟨KeepsFrom.turn k3 (by omega),CellsKept.turn k3,t5,h0.push k1,k2,h2.trans k3,Nat.le_trans h3 k3.size⟩
   case done=>
    rintro D ys W hD rfl ⟨t,h0,h1,h2,h3⟩ hKD;gi_wp2;have hMD:Marks (b0+2) [D] W:=(Marks.nil _ W).push (by omega) (by simp) hKD
    exact leaves_marks [D] W hMD (fun W' hT=>by
     have hb:=hT.below hMD;exact ⟨_,results_none rfl _ _ _,rfl,t,h0.node,h1.next hb (by omega),h2.below2 hb (by omega)⟩)
theorem vis_new {n N:Nat} {l:List (Nat × Nat)} {w:World} (ty:TypeId) (hN:Net w w.heap.size N n l) :
  Vis w.heap.size n N l (fun _=>false) ((((w.alloc (.cells #[.int .i64 n,.slice (some ⟨N,0,none⟩) n n] 98)).alloc (.cells (madeCells #[.bool false] n) 4)).alloc (.cells #[.slice (some ⟨w.heap.size+1,0,none⟩) n n] 82)).alloc (.cells #[visV w.heap.size] ty)) ∧
  Below w.heap.size w ((((w.alloc (.cells #[.int .i64 n,.slice (some ⟨N,0,none⟩) n n] 98)).alloc (.cells (madeCells #[.bool false] n) 4)).alloc (.cells #[.slice (some ⟨w.heap.size+1,0,none⟩) n n] 82)).alloc (.cells #[visV w.heap.size] ty)):=by
 have hba:=below_alloc w (.cells #[.int .i64 n,.slice (some ⟨N,0,none⟩) n n] 98);have hga:=bx_new w #[.int .i64 n,.slice (some ⟨N,0,none⟩) n n] 98;have hza:(w.alloc (.cells #[.int .i64 n,.slice (some ⟨N,0,none⟩) n n] 98)).heap.size=w.heap.size+1:=by simp
 have hrb:=World.rowIs_made (w.alloc (.cells #[.int .i64 n,.slice (some ⟨N,0,none⟩) n n] 98)) (.bool false) n 4;have hbb:=below_alloc (w.alloc (.cells #[.int .i64 n,.slice (some ⟨N,0,none⟩) n n] 98)) (.cells (madeCells #[.bool false] n) 4);have hzb:((w.alloc (.cells #[.int .i64 n,.slice (some ⟨N,0,none⟩) n n] 98)).alloc (.cells (madeCells #[.bool false] n) 4)).heap.size=w.heap.size+2:=by simp
 rw [hza] at hrb;generalize w.alloc _=wa at *;generalize wa.alloc _=wb at *;have hbc:=below_alloc wb (.cells #[.slice (some ⟨w.heap.size+1,0,none⟩) n n] 82);have hgc:=bx_new wb #[.slice (some ⟨w.heap.size+1,0,none⟩) n n] 82;have hzc:(wb.alloc (.cells #[.slice (some ⟨w.heap.size+1,0,none⟩) n n] 82)).heap.size=w.heap.size+3:=by simp; omega
 rw [hzb] at hgc;have hrc:=hrb.alloc (.cells #[.slice (some ⟨w.heap.size+1,0,none⟩) n n] 82);generalize wb.alloc _=wc at *;have hbd:=below_alloc wc (.cells #[visV w.heap.size] ty);have hgd:=bx_new wc #[visV w.heap.size] ty;rw [hzc] at hgd;have hbx:=((hba.trans (hbb.mono (by omega))).trans (hbc.mono (by omega))).trans (hbd.mono (by omega));exact ⟨⟨hN.below' hbx (Nat.le_refl _),((hga.below hbb (by omega)).below hbc (by omega)).below hbd (by omega),(hrc.alloc _).congr (fun i _=>rfl),hgc.below hbd (by omega),hgd,by simp; omega⟩,hbx⟩
theorem dgReach_any (n N u:Nat) (l:List (Nat × Nat)) (hn:n≤200) (hl:l.length≤2000) (hr:EdR n l) (hu:u<n) (g:Nat) (c:Nat) (w:World) (hN:Net w w.heap.size N n l) (hg:g<w.heap.size) (hc:w.cell? ⟨g,0,none⟩=some (.int .i64 u)) :
  Calls Tryz.prog 58 #[netV n N,.slice (some ⟨g,0,none⟩) 1 c] w fun e W=>∃ (b:Nat) (t:Nat→Bool),e=.returned (.slice (some ⟨b,0,none⟩) n n)∧w.heap.size≤b∧W.rowIs b 4 n (fun v=>.bool (t v))∧(∀ v,t v=true↔Way l u v)∧Below w.heap.size w W:=by
 have hmk:=fun W=>run_make_row' (P:=Tryz.prog) 82 4 (.bool false) 1 Tryz.underlying82 (by kernel_rfl) rfl .i64 .i64 n (by omega) (by omega) W
 unfold netV;go_enter Tryz.func58,Tryz.ntmps58;go_upto_region 4 with fail;have hVN:=vis_new 114 hN;have hV:=hVN.1;have hb:=hVN.2;unfold visV at hV hb;rw [show w.heap.size+1+1+1=w.heap.size+3 from rfl,show w.heap.size+1+1=w.heap.size+2 from rfl];clear hVN hmk hN;generalize World.alloc _ _=wa at hV hb ⊢;obtain ⟨M,hM⟩:∃ M,M=w.heap.size:=⟨_,rfl⟩
 rw [← hM] at hV ⊢;have HM:=hid hM;clear hM;go_upto_region 5 with fail;go_loopw [8,15] (fun _ i wr=>((i=.int .i64 0∧Vis M n N l (fun _=>false) wr)∨(i=.int .i64 1∧∃ t,Seen l [u] (fun _=>false) t∧Vis M n N l t wr))∧Below w.heap.size w wr) (fun _ i _=>1 - (intOf i).toNat)
 case atStart=>exact ⟨.inl ⟨rfl,hV⟩,hb⟩
 case round=>
  clear hV hb;obtain ⟨⟨rfl,hV⟩ | ⟨rfl,t,ht,hV⟩,hb⟩:=hrel
  ·have hg0:=(hb.cell (p:=⟨g,0,none⟩) hg).trans hc
   have v0:=hV.vb 0 _ rfl;unfold visV at v0;have HV:=hid (reach1_any M n N l hl hr (blind n (fun _=>false)+1) (fun _=>false) u wr (by omega) hu hV);have hzV:=hV.size;clear hV;go_wp2_with fail;refine HV.out.mono ?_;rintro e W5 ⟨rfl,t5,k1,k2,k3⟩;have hb5:Below w.heap.size w W5:=hb.trans ((k3.below (by omega)).mono (by have:=HM.out; omega));go_wp2_with fail;go_round
   case rel=>exact ⟨.inr ⟨rfl,t5,k1,k2⟩,hb5⟩
   case measure=>simp [intOf]
  ·have s0:=hV.sb 0 _ rfl
   go_wp2_with fail;go_ret;exact ⟨M+1,t,rfl,by have:=HM.out; omega,hV.row,ht.reach,hb⟩
end
end Go.Proofs.YtkpjdanfpolimaaGreat
