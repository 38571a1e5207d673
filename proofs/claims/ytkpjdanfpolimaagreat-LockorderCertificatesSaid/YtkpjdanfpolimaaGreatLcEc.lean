/- The reference's Ranks of a graph, walked. Conditions: the edges are in range and strictly  · The reference's Lock and SameCertificate, walked. Conditions: the program lies in memory;  · The reference's Certify, walked: of any program. Condi -/
import Derived.Test.YtkpjdanfpolimaaGreatLcDgS
import Derived.Test.YtkpjdanfpolimaaGreatLcDg6
import Derived.Deep.RegionHeld
import Derived.BigRegion
import Derived.Test.YtkpjdanfpolimaaGreatLcDg9
import Derived.Deep.RegionHeld3
import Derived.Test.YtkpjdanfpolimaaGreatLcOpn
set_option linter.unusedSimpArgs false
set_option maxRecDepth 100000
set_option maxHeartbeats 6400000
namespace Go.Proofs.YtkpjdanfpolimaaGreat
section
open Go.RowKit Go.Shelf
def GRkR (n:Nat) (l:List (Nat × Nat)) (w:World):Ending→World→Prop:=fun e W=>∃ (v:Value) (c:Int),e=.returned (.tuple #[v,.int .i64 c])∧Below w.heap.size w W ∧
 ((c=0∧∃ r,Ranked n l r∧(∃ T,v=.slice (some ⟨T,0,none⟩) n n∧w.heap.size≤T∧W.rowIs T 3 n (fun v=>.int .i64 (r v:Int)))∧∀ v,r v≤n)∨(c=21∧Stuck n l))
theorem succs_take (l:List (Nat × Nat)) (u:Nat) {k:Nat} (hk:k<l.length):succs (l.take (k+1)) u=if l[k].1=u then succs (l.take k) u++[l[k].2] else succs (l.take k) u:=by
 rw [take_one _ _ hk,succs_append];obtain ⟨a,b⟩:=l[k];rw [succs_one];split
 ·rfl
 ·simp
theorem granks_any (n:Nat) (A:Option Addr) (c:Nat) (l:List (Nat × Nat)) (hn:n≤200) (hl:l.length≤2000) (hr:EdR n l) (hs:Strict l) (w:World) (h:Eds w w.heap.size A l) :
  Calls Tryz.prog 35 #[.int .i64 n,.slice A l.length c] w (GRkR n l w):=by
 have HOR:=hid (gorder_any n A c l hn hl hr hs w h);have HED:=hid (fun (W:World) (hb:Below w.heap.size w W) (k:Nat) (hk:k<l.length)=>(h.below hb).at_ hk);have hmk:=fun W=>run_make_row' (P:=Tryz.prog) 27 3 (.int .i64 0) 8 Tryz.underlying27 (by kernel_rfl) rfl .i64 .i64 n (by omega) (by omega) W
 have hn0:=zi n;clear h;go_enter Tryz.func35,Tryz.ntmps35;go_upto_region 1 with fail;go_wp2_with fail;refine HOR.out.mono ?_;rintro e w1 ⟨v1,cc,rfl,hb1,⟨rfl,o,ht,hown⟩ | ⟨rfl,hst⟩⟩
 ·obtain ⟨Ao,Co,rfl⟩:=own_form hown
  have hno:Nts w1 w1.heap.size Ao o:=by
   have:=Rd.of_own hown;show Rd _ _ _ _ o.length _;rw [ht.len]; exact this
  clear hown HOR;go_upto_region 5 with fail;have hro:=World.rowIs_made w1 (.int .i64 0) n 3;have hba:=below_alloc w1 (.cells (madeCells #[.int .i64 0] n) 3);have hno1:=hno.below' hba (Nat.le_refl _);have hbw:=hb1.trans (hba.mono hb1.size);have hzR:=hb1.size;clear hmk hno hba hb1;generalize World.alloc w1 _=wa at hro hno1 hbw ⊢;generalize w1.heap.size=R at hro hno1 hzR ⊢;go_upto_region 6 with fail;have HT:=hid ht;go_loopw [9] (fun i wr=>∃ (j:Nat) (r:Nat→Nat),i=.int .i64 j∧j≤n∧Hid (RkInv n l o j r)∧wr.rowIs R 3 n (fun v=>.int .i64 (r v:Int))∧Nts wr R Ao o∧Below w.heap.size w wr) (fun i _=>n - (intOf i).toNat)
  case atStart=>exact ⟨0,fun _=>0,rfl,by omega,hid (RkInv.zero n l o),hro.congr (fun _ _=>rfl),hno1,hbw⟩
  case round=>
   clear hro hno1 hbw;obtain ⟨i,r0,rfl,hi,HR,hro,hno,hb⟩:=hrel;have hi0:=zi i;have hwr1:=Wi i (by omega);by_cases hlt:i<n
   ·have hd1:=Dt (show (i:Int)<n by omega)
    have hd2:=Dt hlt;have hil:(i:Int)<(n:Int):=by omega
    have hio:i<o.length:=by rw [HT.out.len]; exact hlt
    obtain ⟨ob,oo,rfl,hobl,co⟩:=hno.at_ hio;have huo:o[i]? = some o[i]:=List.getElem?_eq_getElem hio;have hun:=HT.out.lt _ (List.getElem_mem hio);generalize hou:o[i]=u at co huo hun;have HUO:=hid huo;have HOU:=hid hou;clear huo hou co;have hu0:=zi u;have hu1:(u:Int)<(n:Int):=by omega
    have HIN0:=hid (HR.out.enter u);go_upto_region 9 with fail;go_loopw [10] (fun i' wr=>∃ (k:Nat) (r:Nat→Nat),i'=.int .i64 k∧k≤l.length∧Hid (RkIn n l o i u (succs (l.take k) u) r)∧wr.rowIs R 3 n (fun v=>.int .i64 (r v:Int))∧Nts wr R (some ⟨ob,oo,none⟩) o∧Below w.heap.size w wr) (fun i' _=>l.length - (intOf i').toNat)
    case atStart=>exact ⟨0,r0,rfl,by omega,HIN0,hro,hno,hb⟩
    case round=>
     clear hro hno hb;obtain ⟨k,r,rfl,hk,HRI,hro,hno,hb⟩:=hrel;have hk0:=zi k;have hwr2:=Wi k (by omega);by_cases hkl:k<l.length
     ·have hd3:=Dt (show (k:Int)<l.length by omega)
      have hd4:=Dt hkl;have hkl2:(k:Int)<(l.length:Int):=by omega
      obtain ⟨eb,eo,rfl,hebl,h1,h2⟩:=HED.out _ hb k hkl;obtain ⟨r1,r2⟩:=hr _ (List.getElem_mem hkl);have HST:=hid (succs_take l u hkl);have HM:=hid (List.getElem_mem hkl);generalize l[k]=x at h1 h2 r1 r2 HST HM;obtain ⟨a,t⟩:=x;dsimp only at h1 h2 r1 r2 HST;obtain ⟨ob',oo',e',-,co⟩:=hno.at_ hio;injection e' with e';injection e' with e1 e2;subst e1;subst e2;rw [HOU.out] at co;by_cases hau:a=u
      ·subst hau
       have g1:((a:Int) == (a:Int))=true:=by simp
       have hru:=HRI.out.own;have hst:=HRI.out.step HT.out HUO.out HM.out;have c1:=World.rowIs.cell hro r1;have c2:=World.rowIs.cell hro r2;have f2:=World.rowIs.frozen hro t;have ht0:=zi t;have ht1:(t:Int)<(n:Int):=by omega
       have hwy:IntKind.i64.wrap ((r a:Int)+1)=(r a:Int)+1:=by rw [IntKind.wrap_i64]; omega
       have HS2:Hid (RkIn n l o i a (succs (l.take (k+1)) a) (fun w=>if w=t then max (r t) (r a+1) else r w)):=hid (by rw [HST.out,if_pos rfl]; exact hst);have HRO:=hid hro;have HNO:=hid hno;clear hst hru HST hro hno;go_wp2_with fail;go_quiet (fail);go_upto_region 12 with fail;have hro2:(wr.drewN nq).rowIs R 3 n (fun v=>.int .i64 (r v:Int)):=HRO.out;have hno2:=HNO.out.below' (below_drews R wr nq) (Nat.le_refl _);have hb2:=hb.trans (below_drews _ wr nq);have h1':(wr.drewN nq).cell? ⟨eb,eo+k * 2,none⟩=some (.int .i64 (a:Int)):=h1;have h2':(wr.drewN nq).cell? ⟨eb,eo+k * 2+1,none⟩=some (.int .i64 (t:Int)):=h2;have c1':(wr.drewN nq).cell? ⟨R,a,none⟩=some (.int .i64 (r a:Int)):=c1;have c2':(wr.drewN nq).cell? ⟨R,t,none⟩=some (.int .i64 (r t:Int)):=c2
       have co':(wr.drewN nq).cell? ⟨ob,oo+i,none⟩=some (.int .i64 (a:Int)):=co;clear h1 h2 c1 c2 co;have f2':(wr.drewN nq).frozen? ⟨R,t,none⟩=false:=f2;clear f2;generalize wr.drewN nq=wx at hro2 hno2 hb2 h1' h2' c1' c2' co' f2' ⊢;go_region;have hbs:Below R wx (wx.setCell ⟨R,t,none⟩ (.int .i64 (max (r t:Int) ((r a:Int)+1)))):=(Below.refl _ _).setCell (p:=⟨R,t,none⟩) (Nat.le_refl _) _
       have hro3:=(hro2.set t (.int .i64 (max (r t:Int) ((r a:Int)+1)))).congr (g:=fun v=>.int .i64 ((if v=t then max (r t) (r a+1) else r v:Nat):Int)) (fun v _=>by
        by_cases e:v=t
        ·simp only [e,if_true]; congr 1; omega
        ·simp only [e,if_false])
       have hno3:=hno2.below' hbs (Nat.le_refl _);have hb3:=hb2.trans (hbs.mono hzR);clear h1' h2' c1' c2' co' f2' hro2 hno2 hb2 hbs;generalize wx.setCell _ _=wy at hro3 hno3 hb3 ⊢;go_wp2_with fail;go_round
       case rel=>exact ⟨k+1,_,rfl,by omega,HS2,hro3,hno3,hb3.trans (below_drews _ _ _)⟩
       case measure=>exact ms (by omega)
      ·have g1:((a:Int) == (u:Int))=false:=by simp; omega
       have g1b:(a == u)=false:=by simpa using hau
       have HS2:Hid (RkIn n l o i u (succs (l.take (k+1)) u) r):=hid (by rw [HST.out,if_neg hau]; exact HRI.out);clear hau HST;go_wp2_with fail;go_quiet (fail);go_wp2_with fail;go_round
       case rel=>exact ⟨k+1,r,rfl,by omega,HS2,hro,hno,hb.trans (below_drews _ _ _)⟩
       case measure=>exact ms (by omega)
     ·have hd3:=Df (show ¬ (k:Int)<l.length by omega)
      have hd4:=Df hkl
      have HRN:Hid (RkInv n l o (i+1) r):=hid (by
       have h9:=HRI.out;rw [show l.take k=l from List.take_of_length_le (by omega)] at h9;exact h9.leave HUO.out)
      clear HRI hkl;go_wp2_with fail;go_round
      case rel=>exact ⟨i+1,r,rfl,by omega,HRN,hro,hno,hb⟩
      case measure=>exact ms (by omega)
   ·have hd1:=Df (show ¬ (i:Int)<n by omega)
    have hd2:=Df hlt;have hin:i=n:=by omega
    have HRN:Hid (RkInv n l o n r0):=hid (by have h9:=HR.out; rw [hin] at h9; exact h9);clear hlt hin;go_wp2_with fail;go_ret2;exact ⟨_,0,rfl,hb,.inl ⟨rfl,r0,⟨o,HT.out,HRN.out⟩,⟨R,rfl,hzR,hro⟩,HRN.out.le⟩⟩
 ·have hba:=below_alloc w1 (.cells #[] 3)
  have HST:=hid hst;clear hst;go_wp2_with fail;go_ret2;exact ⟨_,21,rfl,hb1.trans (hba.mono hb1.size),.inr ⟨rfl,HST.out⟩⟩
end
section
open Go.RowKit Go.Shelf
theorem rlock_any (p:Prg) (k:Nat) (hk:k<p.obs.length) (w:World) (h:Lies w w.heap.size p):Calls Tryz.prog 36 #[p.val,.int .i64 k] w (Ret (.bool (lockB p.obs[k])) w):=by
 have hN:=h.obN;unfold maxLen at hN;have hT:=one_new w #[.slice p.funA p.funs.length p.funC,.slice p.obA p.obs.length p.obC,.slice p.vrA p.vrs.length p.vrC] 26;obtain ⟨b9,off9,hA9,hb9,d0,d1,d2,d3⟩:=h.ob hk;have q1:=(hT.below.cell (p:=⟨b9,off9+k * 4+1,none⟩) hb9).trans d1;have hk0:=zi k;have hk1:(k:Int)<(p.obs.length:Int):=by omega
 have g0:decide ((0:Int)≤(k:Int))=true:=decide_eq_true hk0;have g1:decide ((k:Int)<(p.obs.length:Int))=true:=decide_eq_true hk1;have g2:=Dt hk;clear d0 d1 d2 d3 h hN;unfold Prg.val lockB;generalize p.obs[k]=o at q1 ⊢;generalize p.obs.length=N at hT q1 hk1 g1 g2 hk ⊢;rw [hA9] at hT q1 ⊢;clear hA9;go_enter Tryz.func36,Tryz.ntmps36;go_upto_region 1 with fail;generalize World.alloc w _=W1 at hT q1 ⊢;obtain ⟨x0,x1,x2⟩:=bx3 hT.fst;have HT:=hid hT.below;clear hT;by_cases h1:o.kind=1
 ·have hd1:(o.kind == 1)=true:=by simpa using h1
  have hv:Hid (decide (o.kind=1∨o.kind=2)=true):=hid (decide_eq_true (.inl h1));clear h1;go_wp2_with fail;go_ret;exact ⟨by rw [hv.out]; rfl,HT.out⟩
 ·have hd1:(o.kind == 1)=false:=by simpa using h1
  by_cases h2:o.kind=2
  ·have hd2:(o.kind == 2)=true:=by simpa using h2
   have hv:Hid (decide (o.kind=1∨o.kind=2)=true):=hid (decide_eq_true (.inr h2));clear h1 h2;go_wp2_with fail;go_ret;exact ⟨by rw [hv.out]; rfl,HT.out⟩
  ·have hd2:(o.kind == 2)=false:=by simpa using h2
   have hv:Hid (decide (o.kind=1∨o.kind=2)=false):=hid (decide_eq_false (fun z=>z.elim h1 h2));clear h1 h2;go_wp2_with fail;go_ret;exact ⟨by rw [hv.out]; rfl,HT.out⟩
theorem sameCert_same (x:Int) (A1:Option Addr) (c1:Nat) (A2:Option Addr) (c2:Nat) (l:List Nat) (hl:l.length≤2000) (w:World) (h1:Nts w w.heap.size A1 l) (h2:Nts w w.heap.size A2 l) :
  Calls Tryz.prog 13 #[.agg #[.int .i64 x,.slice A1 l.length c1],.agg #[.int .i64 x,.slice A2 l.length c2]] w (Ret (.bool true) w):=by
 have hT:=two_new w #[.int .i64 x,.slice A1 l.length c1] #[.int .i64 x,.slice A2 l.length c2] 29 29;have HSI:=hid (fun (W:World) (hb:Below w.heap.size w W)=>sameInts_same A1 c1 A2 c2 l hl W (Rd.more (Rd.below h1 hb) hb.size) (Rd.more (Rd.below h2 hb) hb.size));clear h1 h2;go_enter Tryz.func13,Tryz.ntmps13;go_upto_region 1 with fail;generalize World.alloc (World.alloc w _) _=W1 at hT ⊢;obtain ⟨x0,x1⟩:=bx2 hT.fst;obtain ⟨y0,y1⟩:=bx2 hT.snd;have hxx:(x == x)=true:=by simp
 have HT:=hid hT.below;clear hT;go_wp2_with fail;refine (HSI.out _ HT.out).mono ?_;rintro e W2 ⟨rfl,hb2⟩;go_wp2_with fail;go_ret;exact ⟨rfl,HT.out.trans (hb2.mono HT.out.size)⟩
end
section
open Go.RowKit Go.Shelf
def CeR (p:Prg) (w:World):Ending→World→Prop:=fun e W=>∃ (ks:List Nat) (A:Option Addr) (c:Nat) (k er:Int),e=.returned (.tuple #[.agg #[.int .i64 k,.slice A ks.length c],.int .i64 er])∧Nts W W.heap.size A ks∧Below w.heap.size w W ∧
 (¬ prgOk p→er=1∧k=0∧ks=[])∧(prgOk p→(er=0∧k=1∧∃ r,Ranked p.obs.length (graphOf p) r∧ks=(List.range p.obs.length).map (crt p r))∨(er=30∧k=0∧ks=[]∧Stuck p.obs.length (graphOf p)))
theorem crt_succ (p:Prg) (r:Nat→Nat) (k:Nat):natC ((List.range (k+1)).map (crt p r))=natC ((List.range k).map (crt p r))++[.int .i64 (crt p r k:Int)]:=by
 rw [List.range_succ,List.map_append,List.map_singleton,natC_push]
theorem nts_nil (W:World) (B:Nat) (A:Option Addr):Nts W B A []:=⟨rfl,.inl rfl⟩
theorem cert_cell {W:World} {C:Nat} {x v:Value} {T:TypeId} (h:W.heap[C]? = some (.cells #[x,v] T (0,0))):W.cell? ⟨C,1,none⟩=some v∧W.frozen? ⟨C,1,none⟩=false:=⟨by simp [World.cell?,h],by simp [World.frozen?,h]⟩
theorem cert_set {W:World} {C:Nat} {x v u:Value} {T:TypeId} (h:W.heap[C]? = some (.cells #[x,v] T (0,0))):(W.setCell ⟨C,1,none⟩ u).heap[C]? = some (.cells #[x,u] T (0,0)):=by simp [World.setCell,Array.getElem?_modify,h]
theorem rcertify_any (p:Prg) (w:World) (h:Lies w w.heap.size p):Calls Tryz.prog 10 #[p.val] w (CeR p w):=by
 obtain ⟨i0,hi,hz⟩:=Option.map_eq_some_iff.1 intInfo;have hz0:i0.zero=some (.int .i64 0):=congrArg (fun t=>t.1) hz;have hz1:i0.size=1:=congrArg (fun t=>t.2.1) hz;have hz2:i0.bytes=8:=congrArg (fun t=>t.2.2) hz;clear hz;have HGR:=hid (fun (W:World) (hb:Below w.heap.size w W)=>rgraph_any p W (h.next hb));have HRK:=hid (fun (hv:prgOk p) (A:Option Addr) (c:Nat) (W:World) (hE:Eds W W.heap.size A (graphOf p))=>granks_any p.obs.length A c (graphOf p) (by have:=(wf_of hv).obs; omega) (by have:=graph_len (wf_of hv).obs; omega) (graph_range (wf_of hv)) (graph_strict p) W hE);have HLK:=hid (fun (W:World) (hb:Below w.heap.size w W) (k:Nat) (hk:k<p.obs.length)=>rlock_any p k hk W (h.next hb));have HOB:=hid (fun (hv:prgOk p)=>(wf_of hv).obs);unfold Prg.val at HGR HLK ⊢;unfold CeR;clear h;go_enter Tryz.func10,Tryz.ntmps10
 go_upto_region 1 with fail;have hT:=one_new w #[.slice p.funA p.funs.length p.funC,.slice p.obA p.obs.length p.obC,.slice p.vrA p.vrs.length p.vrC] 26;have hbR:=below_alloc (w.alloc (.cells #[.slice p.funA p.funs.length p.funC,.slice p.obA p.obs.length p.obC,.slice p.vrA p.vrs.length p.vrC] 26)) (.cells #[.int .i64 0,.slice none 0 0] 29);have hRo:=heap_alloc_new (w.alloc (.cells #[.slice p.funA p.funs.length p.funC,.slice p.obA p.obs.length p.obC,.slice p.vrA p.vrs.length p.vrC] 26)) (.cells #[.int .i64 0,.slice none 0 0] 29);rw [World.size_alloc] at hRo;have hT1:=hT.next hbR;have hzR:w.heap.size+1<((w.alloc (.cells #[.slice p.funA p.funs.length p.funC,.slice p.obA p.obs.length p.obC,.slice p.vrA p.vrs.length p.vrC] 26)).alloc (.cells #[.int .i64 0,.slice none 0 0] 29)).heap.size:=by simp
 clear hT hbR;generalize World.alloc _ _=w1 at hT1 hRo hzR ⊢;obtain ⟨x0,x1,x2⟩:=bx3 hT1.fst;have HG1:=hid (HGR.out w1 hT1.below);go_wp2_with fail;refine HG1.out.mono ?_;rintro e w2 ⟨l,Ag,Cg,er,rfl,hE,hb2,hok,hno⟩;have hT2:=hT1.next hb2;have hR2:=(hb2.block _ hzR).trans hRo;have hzz2:=hb2.size;clear x0 x1 x2 HG1 hT1 hRo hb2 HGR;obtain ⟨x0,x1,x2⟩:=bx3 hT2.fst;by_cases hv:prgOk p;rotate_left
 ·obtain ⟨rfl,rfl⟩:=hno hv
  have HV:=hid hv;have r0:w2.cell? ⟨w.heap.size+1,0,none⟩=some (.int .i64 0):=by simp [World.cell?,hR2]
  have r1:w2.cell? ⟨w.heap.size+1,1,none⟩=some (.slice none 0 0):=by simp [World.cell?,hR2]
  have f0:w2.frozen? ⟨w.heap.size+1,0,none⟩=false:=by simp [World.frozen?,hR2]
  have f1:w2.frozen? ⟨w.heap.size+1,1,none⟩=false:=by simp [World.frozen?,hR2]
  clear hok hno hv;go_wp2_with fail;have hb9:=(hT2.below.setCell (p:=⟨w.heap.size+1,0,none⟩) (by show w.heap.size≤w.heap.size+1; omega) (.int .i64 0)).setCell (p:=⟨w.heap.size+1,1,none⟩) (by show w.heap.size≤w.heap.size+1; omega) (.slice none 0 0);refine bodyPost_ret (results_cellt rfl rfl (run_loadVar_row (P:=Tryz.prog) _ (w.heap.size+1) 29 29 #[.int .i64 0,.slice none 0 0] (0,0) _ ?_ Tryz.underlying29 rfl (by kernel_rfl))) rfl ?_
  ·simp [World.setCell,Array.getElem?_modify,hR2]
  ·exact ⟨[],none,0,0,1,rfl,nts_nil _ _ _,hb9,fun _=>⟨rfl,rfl,rfl⟩,fun v=>absurd v HV.out⟩
 obtain ⟨rfl,rfl⟩:=hok hv;have HV:=hid hv;have hob:=HOB.out hv;have HR1:=hid (HRK.out hv Ag Cg w2 hE);clear HRK hE hok hno hv HOB;go_wp2_with fail;refine HR1.out.mono ?_;rintro e w3 ⟨rv,rc,rfl,hb3,⟨rfl,r,hr,⟨T,rfl,hTz,hro⟩,hrn⟩ | ⟨rfl,hst⟩⟩
 ·have hT3:=hT2.next hb3
  have hR3:=(hb3.block _ (by omega)).trans hR2;have hz3:=hb3.size;have hTl:=hro.lt;clear x0 x1 x2 hT2 hR2 hb3 HR1;obtain ⟨x0,x1,x2⟩:=bx3 hT3.fst;have hb3:=hT3.below;go_upto_region 8 with fail;have hC:=heap_alloc_new w3 (.cells #[.int .i64 1,.slice none 0 0] 29);have hba:=below_alloc w3 (.cells #[.int .i64 1,.slice none 0 0] 29);have hzC:w3.heap.size+1≤(w3.alloc (.cells #[.int .i64 1,.slice none 0 0] 29)).heap.size:=by simp
  have hTa:=hT3.next hba;have hRa:=(hba.block _ (by omega)).trans hR3;have hra:=hro.of_block (hba.block T hTl);have hzw:w.heap.size+2≤w3.heap.size:=by omega
  clear x0 x1 x2 hT3 hR3 hro hba hb3;generalize w3.alloc _=wa at hC hzC hTa hRa hra ⊢;generalize w3.heap.size=C at hC hzC hTl hzw ⊢;go_upto_region 9 with fail;go_loopw [8] (fun i wr=>∃ (k:Nat) (v:Value),i=.int .i64 (k:Nat)∧k≤p.obs.length∧One w wr [.slice p.funA p.funs.length p.funC,.slice p.obA p.obs.length p.obC,.slice p.vrA p.vrs.length p.vrC]∧wr.rowIs T 3 p.obs.length (fun v=>.int .i64 (r v:Int))∧wr.heap[w.heap.size+1]? = some (.cells #[.int .i64 0,.slice none 0 0] 29 (0,0))∧wr.heap[C]? = some (.cells #[.int .i64 1,v] 29 (0,0))∧wr.ownsRow (C+1) 3 1 v k (natC ((List.range k).map (crt p r)))) (fun i _=>p.obs.length - (intOf i).toNat)
  case atStart=>exact ⟨0,_,rfl,by omega,hTa,hra,hRa,hC,World.ownsRow_nil _ _ _ _⟩
  case round=>
   clear hTa hra hRa hC hzC;obtain ⟨k,v,rfl,hk,hT,hro,hRo,hC,hown⟩:=hrel;have hk0:=zi k;have hwr:=Wi k (by omega);have hzC:C<wr.heap.size:=(Array.getElem?_eq_some_iff.1 hC).1;obtain ⟨x0,x1,x2⟩:=bx3 hT.fst;by_cases hlt:k<p.obs.length
   ·have hd1:=Dt (show (k:Int)<p.obs.length by omega)
    have hd2:=Dt hlt;have hjl:(k:Int)<(p.obs.length:Int):=by omega
    have HLK1:=hid (HLK.out wr hT.below k hlt);have HCR:=hid (show crt p r k=if lockB p.obs[k] then r k+1 else 0 by unfold crt; rw [List.getD_eq_getElem?_getD,List.getElem?_eq_getElem hlt]; rfl);have HCS:=hid (crt_succ p r k);have hrk:=hrn k;generalize p.obs[k]=ok at HLK1 HCR;go_wp2_with fail;refine HLK1.out.mono ?_;rintro e wk ⟨rfl,hbk⟩;have hTk:=hT.next hbk;have hrok:=hro.of_block (hbk.block T (by omega));have hRk:=(hbk.block _ (by omega)).trans hRo;have hCk:=(hbk.block _ hzC).trans hC;have hownk:=own_blocks hown (fun q _ hq=>hbk.block q hq);have hzk:C<wk.heap.size:=Nat.lt_of_lt_of_le hzC hbk.size;have hvB:∀ g,v.ownBlock=some g→C+1≤g:=fun g e=>(hownk.lt g e).1
    have HVB:=hid hvB;have hmx:k+1≤maxLen:=by unfold maxLen; omega
    have hby:(k+1) * 8≤140737488355328:=by omega
    clear hT hro hRo hC hown hbk x0 x1 x2 HLK1 hzC hvB;have c1:wk.cell? ⟨C,1,none⟩=some v:=by simp [World.cell?,hCk]
    cases hlb:lockB ok with
    | false=>
     have hown1:=World.ownsRow.alloc hownk (.cells #[.int .i64 0] 3);have hba:=below_alloc wk (.cells #[.int .i64 0] 3);have hbs:C+1≤(wk.alloc (.cells #[.int .i64 0] 3)).heap.size:=by simp; omega
     have HC3:Hid (∀ w3,(wk.alloc (.cells #[.int .i64 0] 3)).grownBy w3 v.ownBlock→w3.heap[C]? = some (.cells #[.int .i64 1,v] 29 (0,0))):=hid (fun w3 hg=>(hg.block C (by simp; omega) (fun e=>by have:=HVB.out C e.symm; omega)).trans ((hba.block C hzk).trans hCk));have HV0:Hid ((Value.int .i64 ((crt p r k:Nat):Int))=.int .i64 0):=hid (by rw [HCR.out,hlb]; rfl);clear hlb;go_upto_region 10 with (at_builtin; refine wpList_append_own _ rfl (.tmp 51) (.tmp 52) _ rfl (C+1) 3 i0 (.int .i64 0) 1 8 Tryz.underlying27 hi hz0 hz1 hz2 rfl (by omega) _ _ _ rfl hown1 ⟨wk.heap.size,0,none⟩ 1 1 [.int .i64 0] rfl rfl (cell_one_new _ _ _) (by simp [Value.oneCell']) hmx hby hbs ?_; intro v2 w3 hown2 hg2 _; have hC3:=HC3.out w3 hg2; obtain ⟨c3,f3⟩:=cert_cell hC3; obtain ⟨A2,c2,rfl⟩:=own_form hown2)
     have hb3:Below (C+1) wk w3:=((below_alloc wk _).mono (by omega)).grown hg2 (by simp; omega) (fun g e=>HVB.out g e);have hbC:Below C wk (w3.setCell ⟨C,1,none⟩ (.slice A2 (k+1) c2)):=(hb3.mono (Nat.le_succ C)).setCell (p:=⟨C,1,none⟩) (Nat.le_refl _) _;have hT4:One w (w3.setCell ⟨C,1,none⟩ (.slice A2 (k+1) c2)) [.slice p.funA p.funs.length p.funC,.slice p.obA p.obs.length p.obC,.slice p.vrA p.vrs.length p.vrC]:=⟨hTk.fst.below hbC (by omega),hTk.below.trans (hbC.mono (by omega)),Nat.lt_of_lt_of_le hTk.size hbC.size⟩
     have hro4:=hrok.of_block (hbC.block T (by omega));have hR4:=(hbC.block _ (by omega)).trans hRk;have hC4:=cert_set (u:=.slice A2 (k+1) c2) hC3;have hown4:=own_set_far hown2 (b:=C) (fun g e=>by have:=(hown2.lt g e).1; omega) 1 (.slice A2 (k+1) c2);rw [← HV0.out,← HCS.out] at hown4;clear hTk hrok hRk hCk hownk hown1 hg2 hown2 hC3 hb3 hbC c1 c3 f3;generalize w3.setCell _ _=w4 at hT4 hro4 hR4 hC4 hown4 ⊢;go_wp2_with fail;go_round
     case rel=>exact ⟨k+1,_,rfl,by omega,hT4,hro4,hR4,hC4,hown4⟩
     case measure=>exact ms (by omega)
    | true=>
     have hwk:IntKind.i64.wrap ((r k:Int)+1)=(r k:Int)+1:=by rw [IntKind.wrap_i64]; omega
     have HV0:Hid ((Value.int .i64 ((crt p r k:Nat):Int))=.int .i64 ((r k:Int)+1)):=hid (by rw [HCR.out,hlb]; rfl);clear hlb c1;go_upto_region 12 with fail;have hTd:One w wk.drew [.slice p.funA p.funs.length p.funC,.slice p.obA p.obs.length p.obC,.slice p.vrA p.vrs.length p.vrC]:=hTk.next (below_drews _ wk 1);have hrod:wk.drew.rowIs T 3 p.obs.length (fun v=>.int .i64 (r v:Int)):=hrok;have hRd:wk.drew.heap[w.heap.size+1]? = some (.cells #[.int .i64 0,.slice none 0 0] 29 (0,0)):=hRk;have hCd:wk.drew.heap[C]? = some (.cells #[.int .i64 1,v] 29 (0,0)):=hCk;have hownd:wk.drew.ownsRow (C+1) 3 1 v k (natC ((List.range k).map (crt p r))):=hownk;have hzd:C<wk.drew.heap.size:=hzk;refine wp_region_held_drew (S:=fun w'=>w'.cell? ⟨T,k,none⟩=some (.int .i64 (r k:Int))) (by kernel_rfl) (hrok.cell hlt) (fun hHeld=>?_)
     clear hTk hrok hRk hCk hownk hzk;generalize wk.drew=wd at hTd hrod hRd hCd hownd hzd hHeld ⊢;have hTlt:T<wd.heap.size:=by omega
     have c1:wd.cell? ⟨C,1,none⟩=some v:=by simp [World.cell?,hCd]
     have hCA:(wd.alloc (.cells #[.int .i64 ((r k:Int)+1)] 3)).cell? ⟨C,1,none⟩=some v:=(World.cell?_alloc_lt wd _ _ hzd).trans c1;have hownA:(wd.alloc (.cells #[.int .i64 ((r k:Int)+1)] 3)).ownsRow (C+1) 3 1 v k (natC ((List.range k).map (crt p r))):=World.ownsRow.alloc hownd _;have HC3:Hid (∀ w3,(wd.alloc (.cells #[.int .i64 ((r k:Int)+1)] 3)).grownBy w3 v.ownBlock→w3.heap[C]? = some (.cells #[.int .i64 1,v] 29 (0,0))):=hid (fun w3 hg=>(hg.block C (by simp; omega) (fun e=>by have:=HVB.out C e.symm; omega)).trans (((below_alloc wd _).block C hzd).trans hCd))
     have HT5:Hid (∀ w3,(wd.alloc (.cells #[.int .i64 ((r k:Int)+1)] 3)).grownBy w3 v.ownBlock→w3.cell? ⟨T,k,none⟩=some (.int .i64 (r k:Int))):=hid (fun w3 hg=>(World.cell?_of_block ((hg.block T (by simp; omega) (fun e=>by have:=HVB.out T e.symm; omega)).trans ((below_alloc wd _).block T hTlt))).trans hHeld);have HB3:Hid (∀ w3,(wd.alloc (.cells #[.int .i64 ((r k:Int)+1)] 3)).grownBy w3 v.ownBlock→Below (C+1) wd w3):=hid (fun w3 hg=>((below_alloc wd _).mono (show C+1≤wd.heap.size by omega)).grown hg (by simp; omega) (fun g e=>HVB.out g e));refine tkH 0 rfl ?_;try simp only [frS,Act.put]
     refine tkH 2 rfl ?_;try simp only [frS,Act.put]
     refine tkH 3 rfl ?_;try simp only [frS,Act.put]
     refine tkH 4 rfl ?_;try simp only [frS,Act.put]
     refine tkH 5 rfl ?_;try simp only [frS,Act.put]
     refine tkH 6 rfl ?_;try simp only [frS,Act.put]
     refine wpAnyH_ready (rs:=[1,7]) (by kernel_rfl) (by simp) ?_;refine (AllReadyH.cons rfl (fun K hK=>?_) (AllReadyH.cons rfl (fun K hK=>?_) AllReadyH.nil))
     ·go_simp
      refine hK.out _ _ ?_ (fun hHeld=>?_)
      ·exact hHeld
      clear hK K;try simp only [frS,Act.put]
      refine rdH 7 rfl fun K hK=>?_
      go_simp;refine hK.out _ _ ?_ (fun hHeld=>?_)
      ·exact (World.cell?_alloc_lt _ _ _ hTlt).trans hHeld
      clear hK K;try simp only [frS,Act.put]
      refine rdH 8 rfl fun K hK=>?_
      refine step_append_lies _ (by rfl) _ _ _ (by rfl) (C+1) 3 i0 _ 1 8 Tryz.underlying27 hi hz0 hz1 hz2 rfl (by omega) v k (natC ((List.range k).map (crt p r))) (by rfl) (by exact hownA) ⟨wd.heap.size,0,none⟩ 1 1 [.int .i64 ((r k:Int)+1)] (by rfl) (by rfl) (by exact World.news_of_block (cs:=#[.int .i64 ((r k:Int)+1)]) (t:=3) (fr:=(0,0)) (heap_alloc_new wd _)) (by simp [Value.oneCell']) (by omega) hmx hby (by simp; omega) (wd.heap.size+1) (by simp) ?_;intro g cap w3 hown2 hg2 hat hlt2;have hC3:=HC3.out w3 hg2;have c5:=HT5.out w3 hg2;have hb3:=HB3.out w3 hg2;obtain ⟨c3,f3⟩:=cert_cell hC3
      try dsimp only
      refine hK.out _ _ ?_ (fun hHeld=>?_)
      ·exact c5
      clear hK K;try simp only [frS,Act.put]
      refine tkH 9 rfl ?_;try simp only [frS,Act.put]
      refine rdH 10 rfl fun K hK=>?_
      go_simp;refine hK.out _ _ ?_ (fun hHeld=>?_)
      ·exact (World.cell?_setCell_far _ _ _ _ (by show C≠T; omega)).trans c5
      clear hK K;try simp only [frS,Act.put]
      refine wpAnyH_done (by kernel_rfl) ?_ _
      try dsimp only [Exit.then,Exit.inBlock]
      have hbC:Below C wd (w3.setCell ⟨C,1,none⟩ (.slice (some ⟨g,0,none⟩) (k+1) cap)):=(hb3.mono (Nat.le_succ C)).setCell (p:=⟨C,1,none⟩) (Nat.le_refl _) _;have hT4:One w (w3.setCell ⟨C,1,none⟩ (.slice (some ⟨g,0,none⟩) (k+1) cap)) [.slice p.funA p.funs.length p.funC,.slice p.obA p.obs.length p.obC,.slice p.vrA p.vrs.length p.vrC]:=⟨hTd.fst.below hbC (by omega),hTd.below.trans (hbC.mono (by omega)),Nat.lt_of_lt_of_le hTd.size hbC.size⟩
      have hro4:=hrod.of_block (hbC.block T (by omega));have hR4:=(hbC.block _ (by omega)).trans hRd;have hC4:=cert_set (u:=.slice (some ⟨g,0,none⟩) (k+1) cap) hC3;have hown4:=own_set_far hown2 (b:=C) (fun g e=>by have:=(hown2.lt g e).1; omega) 1 (.slice (some ⟨g,0,none⟩) (k+1) cap);rw [← HV0.out,← HCS.out] at hown4;clear hTd hrod hRd hCd hownd hownA hg2 hown2 hC3 hb3 hbC c1 c3 f3 hHeld hCA c5;generalize w3.setCell _ _=w4 at hT4 hro4 hR4 hC4 hown4 ⊢;go_wp2_with fail;go_round
      case rel=>exact ⟨k+1,_,rfl,by omega,hT4,hro4,hR4,hC4,hown4⟩
      case measure=>exact ms (by omega)
     ·go_simp
      refine hK.out _ _ ?_ (fun hHeld=>?_)
      ·exact (World.cell?_alloc_lt _ _ _ hTlt).trans hHeld
      clear hK K;try simp only [frS,Act.put]
      refine rdH 1 rfl fun K hK=>?_
      go_simp;refine hK.out _ _ ?_ (fun hHeld=>?_)
      ·exact hHeld
      clear hK K;try simp only [frS,Act.put]
      refine rdH 8 rfl fun K hK=>?_
      refine step_append_lies _ (by rfl) _ _ _ (by rfl) (C+1) 3 i0 _ 1 8 Tryz.underlying27 hi hz0 hz1 hz2 rfl (by omega) v k (natC ((List.range k).map (crt p r))) (by rfl) (by exact hownA) ⟨wd.heap.size,0,none⟩ 1 1 [.int .i64 ((r k:Int)+1)] (by rfl) (by rfl) (by exact World.news_of_block (cs:=#[.int .i64 ((r k:Int)+1)]) (t:=3) (fr:=(0,0)) (heap_alloc_new wd _)) (by simp [Value.oneCell']) (by omega) hmx hby (by simp; omega) (wd.heap.size+1) (by simp) ?_;intro g cap w3 hown2 hg2 hat hlt2;have hC3:=HC3.out w3 hg2;have c5:=HT5.out w3 hg2;have hb3:=HB3.out w3 hg2;obtain ⟨c3,f3⟩:=cert_cell hC3
      try dsimp only
      refine hK.out _ _ ?_ (fun hHeld=>?_)
      ·exact c5
      clear hK K;try simp only [frS,Act.put]
      refine tkH 9 rfl ?_;try simp only [frS,Act.put]
      refine rdH 10 rfl fun K hK=>?_
      go_simp;refine hK.out _ _ ?_ (fun hHeld=>?_)
      ·exact (World.cell?_setCell_far _ _ _ _ (by show C≠T; omega)).trans c5
      clear hK K;try simp only [frS,Act.put]
      refine wpAnyH_done (by kernel_rfl) ?_ _
      try dsimp only [Exit.then,Exit.inBlock]
      have hbC:Below C wd (w3.setCell ⟨C,1,none⟩ (.slice (some ⟨g,0,none⟩) (k+1) cap)):=(hb3.mono (Nat.le_succ C)).setCell (p:=⟨C,1,none⟩) (Nat.le_refl _) _;have hT4:One w (w3.setCell ⟨C,1,none⟩ (.slice (some ⟨g,0,none⟩) (k+1) cap)) [.slice p.funA p.funs.length p.funC,.slice p.obA p.obs.length p.obC,.slice p.vrA p.vrs.length p.vrC]:=⟨hTd.fst.below hbC (by omega),hTd.below.trans (hbC.mono (by omega)),Nat.lt_of_lt_of_le hTd.size hbC.size⟩
      have hro4:=hrod.of_block (hbC.block T (by omega));have hR4:=(hbC.block _ (by omega)).trans hRd;have hC4:=cert_set (u:=.slice (some ⟨g,0,none⟩) (k+1) cap) hC3;have hown4:=own_set_far hown2 (b:=C) (fun g e=>by have:=(hown2.lt g e).1; omega) 1 (.slice (some ⟨g,0,none⟩) (k+1) cap);rw [← HV0.out,← HCS.out] at hown4;clear hTd hrod hRd hCd hownd hownA hg2 hown2 hC3 hb3 hbC c1 c3 f3 hHeld hCA c5;generalize w3.setCell _ _=w4 at hT4 hro4 hR4 hC4 hown4 ⊢;go_wp2_with fail;go_round
      case rel=>exact ⟨k+1,_,rfl,by omega,hT4,hro4,hR4,hC4,hown4⟩
      case measure=>exact ms (by omega)
   ·have hd1:=Df (show ¬ (k:Int)<p.obs.length by omega)
    have hd2:=Df hlt;have r0:wr.cell? ⟨w.heap.size+1,0,none⟩=some (.int .i64 0):=by simp [World.cell?,hRo]
    have r1:wr.cell? ⟨w.heap.size+1,1,none⟩=some (.slice none 0 0):=by simp [World.cell?,hRo]
    have f0:wr.frozen? ⟨w.heap.size+1,0,none⟩=false:=by simp [World.frozen?,hRo]
    have f1:wr.frozen? ⟨w.heap.size+1,1,none⟩=false:=by simp [World.frozen?,hRo]
    have c0:wr.cell? ⟨C,0,none⟩=some (.int .i64 1):=by simp [World.cell?,hC]
    obtain ⟨A9,c9,rfl⟩:=own_form hown;have c1:wr.cell? ⟨C,1,none⟩=some (.slice A9 k c9):=by simp [World.cell?,hC]
    go_wp2_with fail;have hkn:k=p.obs.length:=by omega
    have hb9:=(hT.below.setCell (p:=⟨w.heap.size+1,0,none⟩) (by show w.heap.size≤w.heap.size+1; omega) (.int .i64 1)).setCell (p:=⟨w.heap.size+1,1,none⟩) (by show w.heap.size≤w.heap.size+1; omega) (.slice A9 k c9);have hN9:=Rd.of_own (own_set_far (own_set_far hown (b:=w.heap.size+1) (fun g e=>by have:=(hown.lt g e).1; omega) 0 (.int .i64 1)) (b:=w.heap.size+1) (fun g e=>by have:=(hown.lt g e).1; omega) 1 (.slice A9 k c9));refine bodyPost_ret (results_cellt rfl rfl (run_loadVar_row (P:=Tryz.prog) _ (w.heap.size+1) 29 29 #[.int .i64 1,.slice A9 k c9] (0,0) _ ?_ Tryz.underlying29 rfl (by kernel_rfl))) rfl ?_
    ·simp [World.setCell,Array.getElem?_modify,hRo]
    ·exact ⟨(List.range k).map (crt p r),A9,c9,1,0,by rw [List.length_map,List.length_range]; rfl,by show Rd _ _ _ _ ((List.range k).map (crt p r)).length _; rw [List.length_map,List.length_range]; exact hN9,hb9,fun z=>absurd HV.out z,fun _=>.inl ⟨rfl,rfl,r,hr,by rw [hkn]⟩⟩
 ·have hR3:=(hb3.block _ (by omega)).trans hR2
  have r0:w3.cell? ⟨w.heap.size+1,0,none⟩=some (.int .i64 0):=by simp [World.cell?,hR3]
  have r1:w3.cell? ⟨w.heap.size+1,1,none⟩=some (.slice none 0 0):=by simp [World.cell?,hR3]
  have f0:w3.frozen? ⟨w.heap.size+1,0,none⟩=false:=by simp [World.frozen?,hR3]
  have f1:w3.frozen? ⟨w.heap.size+1,1,none⟩=false:=by simp [World.frozen?,hR3]
  have hT3:=hT2.next hb3;have HST:=hid hst;clear hst;go_wp2_with fail;have hb9:=(hT3.below.setCell (p:=⟨w.heap.size+1,0,none⟩) (by show w.heap.size≤w.heap.size+1; omega) (.int .i64 0)).setCell (p:=⟨w.heap.size+1,1,none⟩) (by show w.heap.size≤w.heap.size+1; omega) (.slice none 0 0);refine bodyPost_ret (results_cellt rfl rfl (run_loadVar_row (P:=Tryz.prog) _ (w.heap.size+1) 29 29 #[.int .i64 0,.slice none 0 0] (0,0) _ ?_ Tryz.underlying29 rfl (by kernel_rfl))) rfl ?_
  ·simp [World.setCell,Array.getElem?_modify,hR3]
  ·exact ⟨[],none,0,0,30,rfl,nts_nil _ _ _,hb9,fun v=>absurd HV.out v,fun _=>.inr ⟨rfl,rfl,rfl,HST.out⟩⟩
end
section
open Go.RowKit Go.Shelf
theorem analyze_no (p:Prg) (hfit:Fits p) (hv:¬ prgOk p) (w:World) (h:Lies w w.heap.size p):Calls Tryz.prog 45 #[p.val] w fun e W=>e=.returned (.tuple #[.pointer none,.bool false])∧Below w.heap.size w W:=by
 have HCH:=hid (fun (W:World) (hb:Below w.heap.size w W)=>check_any p hfit W (h.next hb));unfold Prg.val at HCH ⊢;have HNV:=hid hv;clear h hv;have hT:=one_new w #[.slice p.funA p.funs.length p.funC,.slice p.obA p.obs.length p.obC,.slice p.vrA p.vrs.length p.vrC] 26;go_enter Tryz.func45,Tryz.ntmps45;go_upto_region 1 with fail;generalize w.alloc _=W1 at hT ⊢;obtain ⟨x0,x1,x2⟩:=bx3 hT.fst;go_wp2_with fail;refine (HCH.out _ hT.below).mono ?_;rintro e W2 ⟨n,rfl,hn,hb2⟩;have en:(n != 0)=true:=by simpa using (fun z:n=0=>HNV.out (hn.1 z))
 have hT2:=hT.next hb2;clear hn;go_wp2_with fail;go_ret2;exact ⟨rfl,hT2.below⟩
theorem lograph_any (p:Prg) (hfit:Fits p) (w:World) (h:Lies w w.heap.size p):Calls Tryz.prog 18 #[p.val] w (GraphR p w):=by
 by_cases hv:prgOk p
 ·refine (graph_any p hfit hv w h).mono ?_
  rintro e W ⟨v,rfl,hE,hb⟩;obtain ⟨A,c,rfl,hE6⟩:=own_eds hE;exact ⟨_,A,c,0,rfl,hE6,hb,fun _=>⟨rfl,rfl⟩,fun z=>absurd hv z⟩
 ·have HAN:=hid (fun (W:World) (hb:Below w.heap.size w W)=>analyze_no p hfit hv W (h.next hb))
  unfold Prg.val at HAN ⊢;have HNV:=hid hv;clear h hv;have hT:=one_new w #[.slice p.funA p.funs.length p.funC,.slice p.obA p.obs.length p.obC,.slice p.vrA p.vrs.length p.vrC] 26;go_enter Tryz.func18,Tryz.ntmps18;go_upto_region 1 with fail;generalize w.alloc _=W1 at hT ⊢;obtain ⟨x0,x1,x2⟩:=bx3 hT.fst;go_wp2_with fail;refine (HAN.out _ hT.below).mono ?_;rintro e W2 ⟨rfl,hb2⟩;have hT2:=hT.next hb2;go_wp2_with fail;go_ret2;exact ⟨[],none,0,1,rfl,eds_nil _ _ _,hT2.below,fun v=>absurd v HNV.out,fun _=>⟨rfl,rfl⟩⟩
end
section
open Go.RowKit Go.Shelf
theorem Ranked.le {n:Nat} {l:List (Nat × Nat)} (hr:EdR n l) {r s:Nat→Nat} (h:Ranked n l r) (k:Ranked n l s):∀ (m v:Nat),r v≤m→r v≤s v:=by
 obtain ⟨o,ho,hi⟩:=h;obtain ⟨o',ho',hi'⟩:=k;intro m
 induction m with
 | zero=>intro v hv; omega
 | succ m ih=>
  intro v hv;rcases hi.low v with h0 | ⟨j,u,-,-,he,e⟩
  ·omega
  ·have h1:=ih u (by omega)
   have h2:=hi'.all ho' hr he;omega
theorem Ranked.same {n:Nat} {l:List (Nat × Nat)} (hr:EdR n l) {r s:Nat→Nat} (h:Ranked n l r) (k:Ranked n l s):r=s:=funext fun v=>Nat.le_antisymm (h.le hr k _ v (Nat.le_refl _)) (k.le hr h _ v (Nat.le_refl _))
theorem Ranked.not_stuck {n:Nat} {l:List (Nat × Nat)} (hr:EdR n l) {r:Nat→Nat} (h:Ranked n l r) (k:Stuck n l):False:=by
 obtain ⟨o,ho,-⟩:=h;exact ho.noRing hr k.ring
theorem ce_same {p:Prg} {ks ks':List Nat} {k k' er er':Int}
  (h:(¬ prgOk p→er=1∧k=0∧ks=[])∧(prgOk p→(er=0∧k=1∧∃ r,Ranked p.obs.length (graphOf p) r∧ks=(List.range p.obs.length).map (crt p r))∨(er=30∧k=0∧ks=[]∧Stuck p.obs.length (graphOf p))))
  (h':(¬ prgOk p→er'=1∧k'=0∧ks'=[])∧(prgOk p→(er'=0∧k'=1∧∃ r,Ranked p.obs.length (graphOf p) r∧ks'=(List.range p.obs.length).map (crt p r))∨(er'=30∧k'=0∧ks'=[]∧Stuck p.obs.length (graphOf p)))) :
  ks'=ks∧k'=k∧er'=er∧ks.length≤2000:=by
 by_cases hv:prgOk p
 ·have hg:=graph_range (wf_of hv)
  have hob:=(wf_of hv).obs;rcases h.2 hv with ⟨rfl,rfl,r,hr,rfl⟩ | ⟨rfl,rfl,rfl,hst⟩
  ·rcases h'.2 hv with ⟨rfl,rfl,s,hs,rfl⟩ | ⟨rfl,rfl,rfl,hst⟩
   ·rw [hr.same hg hs]
    exact ⟨rfl,rfl,rfl,by rw [List.length_map,List.length_range]; omega⟩
   ·exact (hr.not_stuck hg hst).elim
  ·rcases h'.2 hv with ⟨rfl,rfl,s,hs,rfl⟩ | ⟨rfl,rfl,rfl,-⟩
   ·exact (hs.not_stuck hg hst).elim
   ·exact ⟨rfl,rfl,rfl,by simp⟩
 ·obtain ⟨rfl,rfl,rfl⟩:=h.1 hv
  obtain ⟨rfl,rfl,rfl⟩:=h'.1 hv;exact ⟨rfl,rfl,rfl,by simp⟩
theorem lcertify_no (p:Prg) (hfit:Fits p) (hv:¬ prgOk p) (w:World) (h:Lies w w.heap.size p):Calls Tryz.prog 9 #[p.val] w (CeR p w):=by
 have HGR:=hid (fun (W:World) (hb:Below w.heap.size w W)=>lograph_any p hfit W (h.next hb));have HV:=hid hv;unfold Prg.val at HGR ⊢;unfold CeR;clear h hv;go_enter Tryz.func9,Tryz.ntmps9;go_upto_region 1 with fail;have hT:=one_new w #[.slice p.funA p.funs.length p.funC,.slice p.obA p.obs.length p.obC,.slice p.vrA p.vrs.length p.vrC] 26;have hbR:=below_alloc (w.alloc (.cells #[.slice p.funA p.funs.length p.funC,.slice p.obA p.obs.length p.obC,.slice p.vrA p.vrs.length p.vrC] 26)) (.cells #[.int .i64 0,.slice none 0 0] 29);have hRo:=heap_alloc_new (w.alloc (.cells #[.slice p.funA p.funs.length p.funC,.slice p.obA p.obs.length p.obC,.slice p.vrA p.vrs.length p.vrC] 26)) (.cells #[.int .i64 0,.slice none 0 0] 29);rw [World.size_alloc] at hRo;have hT1:=hT.next hbR
 have hzR:w.heap.size+1<((w.alloc (.cells #[.slice p.funA p.funs.length p.funC,.slice p.obA p.obs.length p.obC,.slice p.vrA p.vrs.length p.vrC] 26)).alloc (.cells #[.int .i64 0,.slice none 0 0] 29)).heap.size:=by simp
 clear hT hbR;generalize World.alloc _ _=w1 at hT1 hRo hzR ⊢;obtain ⟨x0,x1,x2⟩:=bx3 hT1.fst;have HG1:=hid (HGR.out w1 hT1.below);go_wp2_with fail;refine HG1.out.mono ?_;rintro e w2 ⟨l,Ag,Cg,er,rfl,hE,hb2,-,hno⟩;have hT2:=hT1.next hb2;have hR2:=(hb2.block _ hzR).trans hRo;obtain ⟨rfl,rfl⟩:=hno HV.out;have r0:w2.cell? ⟨w.heap.size+1,0,none⟩=some (.int .i64 0):=by simp [World.cell?,hR2]
 have r1:w2.cell? ⟨w.heap.size+1,1,none⟩=some (.slice none 0 0):=by simp [World.cell?,hR2]
 have f0:w2.frozen? ⟨w.heap.size+1,0,none⟩=false:=by simp [World.frozen?,hR2]
 have f1:w2.frozen? ⟨w.heap.size+1,1,none⟩=false:=by simp [World.frozen?,hR2]
 clear x0 x1 x2 HG1 hT1 hRo hb2 HGR hno;obtain ⟨x0,x1,x2⟩:=bx3 hT2.fst;go_wp2_with fail;have hb9:=(hT2.below.setCell (p:=⟨w.heap.size+1,0,none⟩) (by show w.heap.size≤w.heap.size+1; omega) (.int .i64 0)).setCell (p:=⟨w.heap.size+1,1,none⟩) (by show w.heap.size≤w.heap.size+1; omega) (.slice none 0 0);refine bodyPost_ret (results_cellt rfl rfl (run_loadVar_row (P:=Tryz.prog) _ (w.heap.size+1) 29 29 #[.int .i64 0,.slice none 0 0] (0,0) _ ?_ Tryz.underlying29 rfl (by kernel_rfl))) rfl ?_
 ·simp [World.setCell,Array.getElem?_modify,hR2]
 ·exact ⟨[],none,0,0,1,rfl,nts_nil _ _ _,hb9,fun _=>⟨rfl,rfl,rfl⟩,fun v=>absurd v HV.out⟩
theorem lcertify_any (p:Prg) (hfit:Fits p) (w:World) (h:Lies w w.heap.size p):Calls Tryz.prog 9 #[p.val] w (CeR p w):=by
 by_cases hv:prgOk p
 ·refine (certify_any p hfit hv w h).mono ?_
  rintro e W ⟨v,k,c,rfl,hb,⟨rfl,rfl,r,hr,hown⟩ | ⟨rfl,rfl,rfl,hst⟩⟩
  ·obtain ⟨A,c9,rfl⟩:=own_form hown
   exact ⟨(List.range p.obs.length).map (crt p r),A,c9,1,0,by rw [List.length_map,List.length_range],by
    show Rd _ _ _ _ ((List.range p.obs.length).map (crt p r)).length _;rw [List.length_map,List.length_range];exact Rd.of_own hown,hb,fun z=>absurd hv z,fun _=>.inl ⟨rfl,rfl,r,hr,rfl⟩⟩
  ·exact ⟨[],none,0,0,30,rfl,nts_nil _ _ _,hb,fun z=>absurd hv z,fun _=>.inr ⟨rfl,rfl,rfl,hst⟩⟩
 ·exact lcertify_no p hfit hv w h
end
end Go.Proofs.YtkpjdanfpolimaaGreat
