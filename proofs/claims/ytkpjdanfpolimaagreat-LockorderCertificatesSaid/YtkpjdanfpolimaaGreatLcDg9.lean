/- lockorder's lock and Certify, walked. Conditions: the program lies in memory, it is valid. · slices.Index, Contains, IndexFunc and ContainsFunc of edges, walked. Conditions: the slice · lockorder's Verify, walked. Conditions: the program li -/
import Derived.Test.YtkpjdanfpolimaaGreatLcDg0
import Derived.Test.YtkpjdanfpolimaaGreatLcDg6
import Derived.Lib.QuietBelow
set_option maxRecDepth 100000
set_option maxHeartbeats 6400000
namespace Go.Proofs.YtkpjdanfpolimaaGreat
section
open Go.RowKit Go.Shelf
def lockB (o:Ob):Bool:=decide (o.kind=1∨o.kind=2)
theorem lock_any (o:Ob) (w:World):Calls Tryz.prog 34 #[.agg o.cells.toArray] w (Ret (.bool (lockB o)) w):=by
 have hb:=below_alloc w (.cells #[.string o.name,.int .i64 o.kind,.int .i64 o.size,.int .i64 o.other] 65);unfold Ob.cells lockB;by_cases h1:o.kind=1
 ·have hd1:(o.kind == 1)=true:=by simpa using h1
  have hv:Hid (decide (o.kind=1∨o.kind=2)=true):=hid (decide_eq_true (.inl h1));clear h1;go_enter Tryz.func34,Tryz.ntmps34;go_wp2_with fail;go_ret;exact ⟨by rw [hv.out]; rfl,hb⟩
 ·have hd1:(o.kind == 1)=false:=by simpa using h1
  by_cases h2:o.kind=2
  ·have hd2:(o.kind == 2)=true:=by simpa using h2
   have hv:Hid (decide (o.kind=1∨o.kind=2)=true):=hid (decide_eq_true (.inr h2));clear h1 h2;go_enter Tryz.func34,Tryz.ntmps34;go_wp2_with fail;go_ret;exact ⟨by rw [hv.out]; rfl,hb⟩
  ·have hd2:(o.kind == 2)=false:=by simpa using h2
   have hv:Hid (decide (o.kind=1∨o.kind=2)=false):=hid (decide_eq_false (fun z=>z.elim h1 h2));clear h1 h2;go_enter Tryz.func34,Tryz.ntmps34;go_wp2_with fail;go_ret;exact ⟨by rw [hv.out]; rfl,hb⟩
theorem own_eds {W:World} {base:Nat} {v:Value} {l:List (Nat × Nat)} (h:OwnE W base v l):∃ A c,v=.slice A l.length c∧Eds W W.heap.size A l:=by
 obtain ⟨A,c,rfl⟩:=own_form h;exact ⟨A,c,rfl,Rd.of_own h⟩
def Ranked (n:Nat) (l:List (Nat × Nat)) (r:Nat→Nat):Prop:=∃ o,Topo n l o∧RkInv n l o n r
def crt (p:Prg) (r:Nat→Nat) (i:Nat):Nat:=if lockB (p.obs.getD i default) then r i+1 else 0
def CertR (p:Prg) (w:World):Ending→World→Prop:=fun e W=>∃ (v:Value) (k c:Int),e=.returned (.tuple #[.agg #[.int .i64 k,v],.int .i64 c])∧Below w.heap.size w W ∧
 ((c=0∧k=1∧∃ r,Ranked p.obs.length (graphOf p) r∧W.ownsRow w.heap.size 3 1 v p.obs.length (natC ((List.range p.obs.length).map (crt p r))))∨(c=30∧k=0∧v=.slice none 0 0∧Stuck p.obs.length (graphOf p)))
theorem certify_any (p:Prg) (hfit:Fits p) (hv:prgOk p) (w:World) (h:Lies w w.heap.size p):Calls Tryz.prog 9 #[p.val] w (CertR p w):=by
 have hW:=wf_of hv;have hn:=hW.funs;have hob:=hW.obs;have HGR:=hid (fun (W:World) (hb:Below w.heap.size w W)=>graph_any p hfit hv W (h.next hb));have HRK:=hid (fun (A:Option Addr) (c:Nat) (W:World) (hE:Eds W W.heap.size A (graphOf p))=>ranks_any p.obs.length A c (graphOf p) (by omega) (by have:=graph_len hob; omega) (graph_range hW) (graph_strict p) W hE);have HOB:=hid (fun (W:World) (hb:Below w.heap.size w W) (k:Nat) (hk:k<p.obs.length)=>(h.next hb).ob hk);have hmk:=fun W=>run_make_row' (P:=Tryz.prog) 27 3 (.int .i64 0) 8 Tryz.underlying27 (by kernel_rfl) rfl .i64 .i64 p.obs.length (by omega) (by omega) W
 unfold Prg.val at HGR ⊢;unfold CertR;clear h;go_enter Tryz.func9,Tryz.ntmps9;go_upto_region 1 with fail;have hT:=one_new w #[.slice p.funA p.funs.length p.funC,.slice p.obA p.obs.length p.obC,.slice p.vrA p.vrs.length p.vrC] 26;have hbR:=below_alloc (w.alloc (.cells #[.slice p.funA p.funs.length p.funC,.slice p.obA p.obs.length p.obC,.slice p.vrA p.vrs.length p.vrC] 26)) (.cells #[.int .i64 0,.slice none 0 0] 29);have hRo:=heap_alloc_new (w.alloc (.cells #[.slice p.funA p.funs.length p.funC,.slice p.obA p.obs.length p.obC,.slice p.vrA p.vrs.length p.vrC] 26)) (.cells #[.int .i64 0,.slice none 0 0] 29);rw [World.size_alloc] at hRo;have hT1:=hT.next hbR
 have hzR:w.heap.size+1<((w.alloc (.cells #[.slice p.funA p.funs.length p.funC,.slice p.obA p.obs.length p.obC,.slice p.vrA p.vrs.length p.vrC] 26)).alloc (.cells #[.int .i64 0,.slice none 0 0] 29)).heap.size:=by simp
 clear hT hbR;generalize World.alloc _ _=w1 at hT1 hRo hzR ⊢;obtain ⟨x0,x1,x2⟩:=bx3 hT1.fst;have HG1:=hid (HGR.out w1 hT1.below);go_wp2_with fail;refine HG1.out.mono ?_;rintro e w2 ⟨gv,rfl,hE,hb2⟩;obtain ⟨Ag,Cg,rfl,hE2⟩:=own_eds hE;have hT2:=hT1.next hb2;have hR2:=(hb2.block _ hzR).trans hRo;have hz2:=hb2.size;clear x0 x1 x2 hE HG1 hT1 hRo hb2 HGR;obtain ⟨x0,x1,x2⟩:=bx3 hT2.fst;have HR1:=hid (HRK.out Ag Cg w2 hE2);clear HRK hE2;go_wp2_with fail;refine HR1.out.mono ?_;rintro e w3 ⟨rv,rc,rfl,hb3,⟨rfl,o,r,ho,hr,hown⟩ | ⟨rfl,rfl,hst⟩⟩
 ·have hT3:=hT2.next hb3
  have hR3:=(hb3.block _ (by omega)).trans hR2;have hz3:=hb3.size;obtain ⟨Ar,Cr,rfl⟩:=own_form hown
  have hNr:Nts w3 w3.heap.size Ar ((List.range p.obs.length).map r):=by
   have:=Rd.of_own hown;show Rd _ _ _ _ ((List.range p.obs.length).map r).length _;rw [List.length_map,List.length_range]; exact this
  clear x0 x1 x2 hT2 hR2 hb3 HR1 hown;obtain ⟨x0,x1,x2⟩:=bx3 hT3.fst;go_upto_region 8 with fail;have hro:=(World.rowIs_made w3 (.int .i64 0) p.obs.length 3).congr (g:=fun i=>.int .i64 ((if i<0 then crt p r i else 0:Nat):Int)) (fun i _=>by simp);have hba:=below_alloc w3 (.cells (madeCells #[.int .i64 0] p.obs.length) 3);have hTa:=hT3.next hba;have hRa:=(hba.block _ (by omega)).trans hR3;have hNa:=hNr.below' hba (Nat.le_refl _);have hza:w3.heap.size+1≤(w3.alloc (.cells (madeCells #[.int .i64 0] p.obs.length) 3)).heap.size:=by simp
  have hzO:w.heap.size+2≤w3.heap.size:=by omega
  clear x0 x1 x2 hT3 hR3 hNr hba hmk;generalize w3.alloc _=wa at hro hTa hRa hNa hza ⊢;generalize w3.heap.size=O at hro hNa hza hzO ⊢;go_upto_region 9 with fail;go_loopw [8,9,35] (fun _ _ i wr=>∃ k:Nat,i=.int .i64 (k:Nat)∧k≤p.obs.length∧One w wr [.slice p.funA p.funs.length p.funC,.slice p.obA p.obs.length p.obC,.slice p.vrA p.vrs.length p.vrC]∧wr.rowIs O 3 p.obs.length (fun i=>.int .i64 ((if i<k then crt p r i else 0:Nat):Int))∧Nts wr O Ar ((List.range p.obs.length).map r)∧wr.heap[w.heap.size+1]? = some (.cells #[.int .i64 0,.slice none 0 0] 29 (0,0))∧O+1≤wr.heap.size) (fun _ _ i _=>p.obs.length - (intOf i).toNat)
  case atStart=>exact ⟨0,rfl,by omega,hTa,hro,hNa,hRa,hza⟩
  case round=>
   clear hTa hro hNa hRa hza;obtain ⟨k,rfl,hk,hT,hro,hNr,hRo,hz⟩:=hrel;have hk0:=zi k;have hwr:=Wi k (by omega);by_cases hlt:k<p.obs.length
   ·have hd1:=Dt (show (k:Int)<p.obs.length by omega)
    have hd2:=Dt hlt;have hjl:(k:Int)<(p.obs.length:Int):=by omega
    obtain ⟨rb,roff,rfl,hrb,cr⟩:=hNr.at_ (k:=k) (by simpa using hlt);have e7:((List.range p.obs.length).map r)[k]'(by simpa using hlt)=r k:=by simp
    rw [e7] at cr;clear e7;obtain ⟨ob,oo,hoA,-,q0,q1,q2,q3⟩:=HOB.out wr hT.below k hlt;obtain ⟨x0,x1,x2⟩:=bx3 hT.fst;rw [hoA] at x1;clear hoA;have HLK:=hid (lock_any p.obs[k] wr);unfold Ob.cells at HLK;have HCR:=hid (show crt p r k=if lockB p.obs[k] then r k+1 else 0 by unfold crt; rw [List.getD_eq_getElem?_getD,List.getElem?_eq_getElem hlt]; rfl);have hrn:r k≤p.obs.length:=hr.le k;generalize p.obs[k]=ok at q0 q1 q2 q3 HLK HCR;generalize r k=rk at cr HCR hrn;go_wp2_with fail;refine HLK.out.mono ?_;rintro e wk ⟨rfl,hbk⟩;have hTk:=hT.next hbk;have hrok:=hro.of_block (hbk.block _ (by omega));have hNk:=hNr.below' hbk (by omega);have hRk:=(hbk.block _ (by omega)).trans hRo;have hzk:O+1≤wk.heap.size:=Nat.le_trans hz hbk.size;clear hT hro hNr hRo hz hbk cr q0 q1 q2 q3 x0 x1 x2 HLK
    cases hlb:lockB ok with
    | false=>
     have hro2:=hrok.congr (g:=fun i=>.int .i64 ((if i<k+1 then crt p r i else 0:Nat):Int)) (fun i _=>by
      by_cases e:i=k
      ·subst e; rw [HCR.out,hlb]; simp
      ·by_cases e2:i<k
       ·rw [if_pos e2,if_pos (by omega)]
       ·rw [if_neg e2,if_neg (by omega)])
     clear hrok hlb;go_wp2_with fail;go_round
     case rel=>exact ⟨k+1,rfl,by omega,hTk,hro2,hNk,hRk,hzk⟩
     case measure=>exact ms (by omega)
    | true=>
     have c0:=hrok.cell hlt;have f0:=hrok.frozen k;have hwk:=Wi rk (by omega)
     have hro2:=(hrok.set k (.int .i64 ((rk:Int)+1))).congr (g:=fun i=>.int .i64 ((if i<k+1 then crt p r i else 0:Nat):Int)) (fun i _=>by
      by_cases e:i=k
      ·subst e; rw [if_pos rfl,if_pos (by omega),HCR.out,hlb]; rfl
      ·rw [if_neg e]
       by_cases e2:i<k
       ·rw [if_pos e2,if_pos (by omega)]
       ·rw [if_neg e2,if_neg (by omega)])
     have hTs:One w (wk.setCell ⟨O,k,none⟩ (.int .i64 ((rk:Int)+1))) [.slice p.funA p.funs.length p.funC,.slice p.obA p.obs.length p.obC,.slice p.vrA p.vrs.length p.vrC]:=⟨fun q u hq=>(World.cell?_setCell_far _ _ _ _ (by show O≠w.heap.size; omega)).trans (hTk.fst q u hq),hTk.below.setCell (p:=⟨O,k,none⟩) (by show w.heap.size≤O; omega) _,by simpa using hTk.size⟩
     have hNs:=hNk.below' ((Below.refl O wk).setCell (p:=⟨O,k,none⟩) (Nat.le_refl _) (.int .i64 ((rk:Int)+1))) (Nat.le_refl _);have hRs:=(heap_setCell_other wk ⟨O,k,none⟩ (w.heap.size+1) (.int .i64 ((rk:Int)+1)) (by show w.heap.size+1≠O; omega)).trans hRk;have hzs:O+1≤(wk.setCell ⟨O,k,none⟩ (.int .i64 ((rk:Int)+1))).heap.size:=by simpa using hzk
     clear hlb hTk hNk hRk hzk;go_wp2_with fail;go_round
     case rel=>exact ⟨k+1,rfl,by omega,hTs,hro2,hNs,hRs,hzs⟩
     case measure=>exact ms (by omega)
   ·have hd1:=Df (show ¬ (k:Int)<p.obs.length by omega)
    have hd2:=Df hlt;have r0:wr.cell? ⟨w.heap.size+1,0,none⟩=some (.int .i64 0):=by simp [World.cell?,hRo]
    have r1:wr.cell? ⟨w.heap.size+1,1,none⟩=some (.slice none 0 0):=by simp [World.cell?,hRo]
    have f0:wr.frozen? ⟨w.heap.size+1,0,none⟩=false:=by simp [World.frozen?,hRo]
    have f1:wr.frozen? ⟨w.heap.size+1,1,none⟩=false:=by simp [World.frozen?,hRo]
    go_wp2_with fail;have hkn:k=p.obs.length:=by omega
    rw [hkn] at hro;have hro9:=hro.congr (g:=fun i=>.int .i64 ((crt p r i:Nat):Int)) (fun i hi=>by rw [if_pos hi]);have hw9:=(hro9.setOther (a:=⟨w.heap.size+1,0,none⟩) (by show O≠w.heap.size+1; omega) (.int .i64 1)).setOther (a:=⟨w.heap.size+1,1,none⟩) (by show O≠w.heap.size+1; omega) (.slice (some ⟨O,0,none⟩) p.obs.length p.obs.length);have hb9:=(hT.below.setCell (p:=⟨w.heap.size+1,0,none⟩) (by show w.heap.size≤w.heap.size+1; omega) (.int .i64 1)).setCell (p:=⟨w.heap.size+1,1,none⟩) (by show w.heap.size≤w.heap.size+1; omega) (.slice (some ⟨O,0,none⟩) p.obs.length p.obs.length)
    refine bodyPost_ret (results_cellt rfl rfl (run_loadVar_row (P:=Tryz.prog) _ (w.heap.size+1) 29 29 #[.int .i64 1,.slice (some ⟨O,0,none⟩) p.obs.length p.obs.length] (0,0) _ ?_ Tryz.underlying29 rfl (by kernel_rfl))) rfl ?_
    ·simp [World.setCell,Array.getElem?_modify,hRo]
    ·exact ⟨_,1,0,rfl,hb9,.inl ⟨rfl,rfl,r,⟨o,ho,hr⟩,own_of_row (by omega) (by omega) hw9⟩⟩
 ·have hR3:=(hb3.block _ (by omega)).trans hR2
  have r0:w3.cell? ⟨w.heap.size+1,0,none⟩=some (.int .i64 0):=by simp [World.cell?,hR3]
  have r1:w3.cell? ⟨w.heap.size+1,1,none⟩=some (.slice none 0 0):=by simp [World.cell?,hR3]
  have f0:w3.frozen? ⟨w.heap.size+1,0,none⟩=false:=by simp [World.frozen?,hR3]
  have f1:w3.frozen? ⟨w.heap.size+1,1,none⟩=false:=by simp [World.frozen?,hR3]
  have hT3:=hT2.next hb3;go_wp2_with fail;have hb9:=(hT3.below.setCell (p:=⟨w.heap.size+1,0,none⟩) (by show w.heap.size≤w.heap.size+1; omega) (.int .i64 0)).setCell (p:=⟨w.heap.size+1,1,none⟩) (by show w.heap.size≤w.heap.size+1; omega) (.slice none 0 0);refine bodyPost_ret (results_cellt rfl rfl (run_loadVar_row (P:=Tryz.prog) _ (w.heap.size+1) 29 29 #[.int .i64 0,.slice none 0 0] (0,0) _ ?_ Tryz.underlying29 rfl (by kernel_rfl))) rfl ?_
  ·simp [World.setCell,Array.getElem?_modify,hR3]
  ·exact ⟨_,0,30,rfl,hb9,.inr ⟨rfl,rfl,rfl,hst⟩⟩
end
section
open Go.RowKit Go.Shelf
def edB (a b c d:Int):Bool:=a == c && b == d
theorem run_eql_ed (a b c d:Int) (W:World):(binOp .eql 47 (.agg #[.int .i64 a,.int .i64 b]) (.agg #[.int .i64 c,.int .i64 d])).run Tryz.prog W=.ok (.bool (edB a b c d)) W:=by
 rw [run_eql_struct];unfold edB;by_cases h:a=c
 ·by_cases g:b=d <;> simp [go_sem,h,g]
 ·simp [go_sem,h]
theorem edB_eq (x y:Nat × Nat):edB x.1 x.2 y.1 y.2=decide (x=y):=by
 obtain ⟨a,b⟩:=x;obtain ⟨c,d⟩:=y;unfold edB;simp only [Prod.mk.injEq];have e1:((a:Int)=c)↔a=c:=by omega
 have e2:((b:Int)=d)↔b=d:=by omega
 by_cases h1:a=c <;> by_cases h2:b=d <;> simp [h1,h2,e1,e2]
attribute [local go_sem ↓] run_eql_ed
theorem edIndex_any (A:Option Addr) (c:Nat) (l:List (Nat × Nat)) (e0:Nat × Nat) (hl:l.length≤2000) (w:World) (h:Eds w w.heap.size A l) :
  Calls Tryz.prog 59 #[.slice A l.length c,edV e0] w fun e W=>∃ i:Int,e=.returned (.int .i64 i)∧decide (0≤i)=decide (e0∈l)∧Below w.heap.size w W:=by
 obtain ⟨ea,eb⟩:=e0;have hba:=below_alloc w (.cells #[.int .i64 ea,.int .i64 eb] 47);have hx:=bx_new2 w (.int .i64 ea) (.int .i64 eb) 47;have hza:w.heap.size<(w.alloc (.cells #[.int .i64 ea,.int .i64 eb] 47)).heap.size:=by simp
 unfold edV;go_enter Tryz.func59,Tryz.ntmps59;go_upto_region 2 with fail;generalize w.alloc _=wa at hba hx hza ⊢;go_loopw [5,8] (fun _ i wr=>∃ k:Nat,i=.int .i64 (k:Nat)∧k≤l.length∧(ea,eb)∉l.take k∧wr.cell? ⟨w.heap.size,0,none⟩=some (.int .i64 ea)∧wr.cell? ⟨w.heap.size,1,none⟩=some (.int .i64 eb)∧Below w.heap.size w wr) (fun _ i _=>l.length - (intOf i).toNat)
 case atStart=>exact ⟨0,rfl,by omega,by simp,hx.1,hx.2,hba⟩
 case round=>
  clear hx hba hza;obtain ⟨k,rfl,hk,hno,x0,x1,hb⟩:=hrel;have hk0:=zi k;have hwr:=Wi k (by omega);have HNO:=hid hno;clear hno;by_cases hlt:k<l.length
  ·have hd1:=Dt (show (k:Int)<l.length by omega)
   have hd2:=Dt hlt;have hjl:(k:Int)<(l.length:Int):=by omega
   obtain ⟨b,off,rfl,had,h1,h2⟩:=(h.below hb).at_ hlt;have HMM:=hid (List.getElem_mem hlt);have HTK:=hid (show l.take (k+1)=l.take k++[l[k]] by rw [List.take_add_one,List.getElem?_eq_getElem hlt]; rfl);generalize l[k]=x at h1 h2 HTK HMM;obtain ⟨a1,a2⟩:=x;dsimp only at h1 h2;by_cases hq:(ea,eb)=(a1,a2)
   ·have hcb:edB ea eb a1 a2=true:=by rw [show edB ea eb a1 a2=_ from edB_eq (ea,eb) (a1,a2)]; exact decide_eq_true hq
    have HIN:Hid (decide ((ea,eb)∈l)=true):=hid (decide_eq_true (hq ▸ HMM.out));clear hq;go_wp2_with fail;go_quiet (fail);go_wp2_with fail;go_ret;exact ⟨_,rfl,by rw [HIN.out]; exact decide_eq_true hk0,hb.trans (below_drews _ _ _)⟩
   ·have hcb:edB ea eb a1 a2=false:=by rw [show edB ea eb a1 a2=_ from edB_eq (ea,eb) (a1,a2)]; exact decide_eq_false hq
    have HN2:Hid ((ea,eb)∉l.take (k+1)):=hid (by rw [HTK.out]; simp only [List.mem_append,List.mem_singleton]; exact fun z=>z.elim HNO.out hq);clear hq;go_wp2_with fail;go_quiet (fail);go_wp2_with fail;go_round
    case rel=>exact ⟨k+1,rfl,by omega,HN2.out,x0,x1,hb.trans (below_drews _ _ _)⟩
    case measure=>exact ms (by omega)
  ·have hd1:=Df (show ¬ (k:Int)<l.length by omega)
   have hd2:=Df hlt;go_wp2_with fail;go_ret
   exact ⟨-1,rfl,by
    have:=HNO.out;rw [List.take_of_length_le (by omega)] at this;rw [decide_eq_false this]; rfl,hb⟩
theorem edContains_any (A:Option Addr) (c:Nat) (l:List (Nat × Nat)) (e0:Nat × Nat) (hl:l.length≤2000) (w:World) (h:Eds w w.heap.size A l) :
  Calls Tryz.prog 38 #[.slice A l.length c,edV e0] w (Ret (.bool (decide (e0∈l))) w):=by
 obtain ⟨ea,eb⟩:=e0;have hba:=below_alloc w (.cells #[.int .i64 ea,.int .i64 eb] 47);obtain ⟨x0,x1⟩:=bx_new2 w (.int .i64 ea) (.int .i64 eb) 47;have HI:=hid (fun (W:World) (hb:Below w.heap.size w W)=>edIndex_any A c l (ea,eb) hl W (Rd.more (h.below hb) hb.size));unfold edV at HI ⊢;go_enter Tryz.func38,Tryz.ntmps38;go_upto_region 1 with fail;generalize w.alloc _=wa at hba x0 x1 ⊢;go_wp2_with fail;refine (HI.out wa hba).mono ?_;rintro e w2 ⟨i,rfl,hi,hb2⟩;have HII:=hid hi;clear hi;go_wp2_with fail;go_ret;exact ⟨by rw [← HII.out]; rfl,hba.trans (hb2.mono hba.size)⟩
end
section
open Go.RowKit Go.Shelf Go.Sort
structure CBox (C:Nat) (k:Int) (A:Option Addr) (c:Nat) (cs:List Int) (W:World):Prop where
 bx:Bx W C [.int .i64 k,.slice A cs.length c]
 rd:Rd W C 1 A cs.length (i64s cs)
theorem CBox.below {C:Nat} {k:Int} {A:Option Addr} {c B:Nat} {cs:List Int} {W W':World} (h:CBox C k A c cs W) (hb:Below B W W') (hB:C<B):CBox C k A c cs W':=⟨h.bx.below hb hB,h.rd.below' hb (by omega)⟩
theorem CBox.rank {C:Nat} {k:Int} {A:Option Addr} {c:Nat} {cs:List Int} {W:World} (h:CBox C k A c cs W) {i:Nat} (hi:i<cs.length):∃ b off,A=some ⟨b,off,none⟩∧W.cell? ⟨b,off+i,none⟩=some (.int .i64 cs[i]):=by
 obtain ⟨b,off,e,-,hc⟩:=Rd.addr h.rd (by omega);exact ⟨b,off,e,hc i _ (by simp [i64s,hi])⟩
def badE (cs:List Int) (e:Nat × Nat):Bool:=decide (cs.getD e.2 0≤cs.getD e.1 0)
theorem verEdge_any (C:Nat) (k:Int) (A:Option Addr) (c:Nat) (cs:List Int) (e0:Nat × Nat) (h1:e0.1<cs.length) (h2:e0.2<cs.length) (w:World) (h:CBox C k A c cs w) (hC:C<w.heap.size) :
  Calls Tryz.prog 43 #[edV e0,.pointer (some ⟨C,0,none⟩)] w (Ret (.bool (badE cs e0)) w):=by
 obtain ⟨u,v⟩:=e0;have hba:=below_alloc w (.cells #[.int .i64 u,.int .i64 v] 47);obtain ⟨x0,x1⟩:=bx_new2 w (.int .i64 u) (.int .i64 v) 47;have hB:=h.below hba hC;obtain ⟨b,off,rfl,ru⟩:=hB.rank h1;obtain ⟨b',off',e',rv⟩:=hB.rank h2;injection e' with e';injection e' with e1 e2;subst e1; subst e2
 have hbe:badE cs (u,v)=decide (cs[v]≤cs[u]):=by
  have g1:cs.getD u 0=cs[u]:=by rw [List.getD_eq_getElem?_getD,List.getElem?_eq_getElem h1]; rfl
  have g2:cs.getD v 0=cs[v]:=by rw [List.getD_eq_getElem?_getD,List.getElem?_eq_getElem h2]; rfl
  unfold badE;rw [g1,g2]
 have HBE:=hid hbe;have u0:=zi u;have u1:(u:Int)<(cs.length:Int):=by exact_mod_cast h1
 have v0:=zi v;have v1:(v:Int)<(cs.length:Int):=by exact_mod_cast h2
 have b1:=hB.bx 1 _ rfl;generalize cs[u]=zu at ru HBE;generalize cs[v]=zv at rv HBE;unfold edV;clear hbe h hB;go_enter Tryz.func43,Tryz.ntmps43;go_upto_region 1 with fail;generalize w.alloc _=wa at hba x0 x1 ru rv b1 ⊢;go_quiet (fail);go_wp2_with fail;go_ret;exact ⟨by rw [HBE.out]; rfl,hba.trans (below_drews _ _ _)⟩
def verVal (C:Nat):Value:=.func (.func 43) #[] #[.pointer (some ⟨C,0,none⟩)]
theorem verIndex_any (C:Nat) (k:Int) (A:Option Addr) (c:Nat) (cs:List Int) (Ae:Option Addr) (ce:Nat) (l:List (Nat × Nat)) (hl:l.length≤2000) (hr:EdR cs.length l) (w:World) (h:CBox C k A c cs w) (hC:C<w.heap.size) (hE:Eds w w.heap.size Ae l) :
  Calls Tryz.prog 51 #[.slice Ae l.length ce,verVal C] w fun e W=>∃ i:Int,e=.returned (.int .i64 i)∧decide (0≤i)=l.any (badE cs)∧Below w.heap.size w W:=by
 unfold verVal;go_enter Tryz.func51,Tryz.ntmps51;go_upto_region 2 with fail;go_loopw [5,8] (fun _ i wr=>∃ k:Nat,i=.int .i64 (k:Nat)∧k≤l.length∧(l.take k).any (badE cs)=false∧Below w.heap.size w wr) (fun _ i _=>l.length - (intOf i).toNat)
 case atStart=>exact ⟨0,rfl,by omega,rfl,Below.refl _ _⟩
 case round=>
  obtain ⟨j,rfl,hj,hno,hb⟩:=hrel;have hj0:=zi j;have hwr:=Wi j (by omega);have HNO:=hid hno;clear hno;by_cases hlt:j<l.length
  ·have hd1:=Dt (show (j:Int)<l.length by omega)
   have hd2:=Dt hlt;have hjl:(j:Int)<(l.length:Int):=by omega
   obtain ⟨b,off,rfl,had,h1,h2⟩:=(hE.below hb).at_ hlt;have hrj:=hr _ (List.getElem_mem hlt);have HMM:=hid (List.getElem_mem hlt);have HTK:=hid (show l.take (j+1)=l.take j++[l[j]] by rw [List.take_add_one,List.getElem?_eq_getElem hlt]; rfl);have HV:=hid (verEdge_any C k A c cs l[j] hrj.1 hrj.2 wr (h.below hb hC) (Nat.lt_of_lt_of_le hC hb.size));unfold edV at HV;generalize l[j]=x at h1 h2 HTK HMM HV;obtain ⟨a1,a2⟩:=x;dsimp only at h1 h2;go_wp2_with fail;refine HV.out.mono ?_;rintro e wk ⟨rfl,hbk⟩;have hb2:=hb.trans (hbk.mono hb.size);clear hb hbk HV
   cases hq:badE cs (a1,a2) with
   | true=>
    have HIN:Hid (l.any (badE cs)=true):=hid (List.any_eq_true.2 ⟨_,HMM.out,hq⟩);clear hq;go_wp2_with fail;go_ret;exact ⟨_,rfl,by rw [HIN.out]; exact decide_eq_true hj0,hb2⟩
   | false=>
    have HN2:Hid ((l.take (j+1)).any (badE cs)=false):=hid (by rw [HTK.out,List.any_append,HNO.out]; simp [hq]);clear hq;go_wp2_with fail;go_round
    case rel=>exact ⟨j+1,rfl,by omega,HN2.out,hb2⟩
    case measure=>exact ms (by omega)
  ·have hd1:=Df (show ¬ (j:Int)<l.length by omega)
   have hd2:=Df hlt;go_wp2_with fail;go_ret
   exact ⟨-1,rfl,by
    have:=HNO.out;rw [List.take_of_length_le (by omega)] at this;rw [this]; rfl,hb⟩
theorem verContains_any (C:Nat) (k:Int) (A:Option Addr) (c:Nat) (cs:List Int) (Ae:Option Addr) (ce:Nat) (l:List (Nat × Nat)) (hl:l.length≤2000) (hr:EdR cs.length l) (w:World) (h:CBox C k A c cs w) (hC:C<w.heap.size) (hE:Eds w w.heap.size Ae l) :
  Calls Tryz.prog 42 #[.slice Ae l.length ce,verVal C] w (Ret (.bool (l.any (badE cs))) w):=by
 have HI:=hid (verIndex_any C k A c cs Ae ce l hl hr w h hC hE);unfold verVal at HI ⊢;clear h hE;go_enter Tryz.func42,Tryz.ntmps42;go_wp2_with fail;refine HI.out.mono ?_;rintro e w2 ⟨i,rfl,hi,hb2⟩;have HII:=hid hi;clear hi;go_wp2_with fail;go_ret;exact ⟨by rw [← HII.out]; rfl,hb2⟩
end
section
open Go.RowKit Go.Shelf Go.Sort
def rkB (p:Prg) (cs:List Int) (i:Nat):Bool:=if lockB (p.obs.getD i default) then decide (0<cs.getD i 0) else decide (cs.getD i 0=0)
def verB (p:Prg) (k:Int) (cs:List Int):Bool:=decide (k=1) && decide (cs.length=p.obs.length) && (List.range p.obs.length).all (rkB p cs) && !(graphOf p).any (badE cs)
def verE (p:Prg) (k:Int) (cs:List Int):Int:=if verB p k cs then 0 else 28
theorem verify_any (p:Prg) (hfit:Fits p) (hv:prgOk p) (k:Int) (A:Option Addr) (c:Nat) (cs:List Int) (w:World) (h:Lies w w.heap.size p) (hcs:Rd w w.heap.size 1 A cs.length (i64s cs)) :
  Calls Tryz.prog 14 #[p.val,.agg #[.int .i64 k,.slice A cs.length c]] w (Ret (.int .i64 (verE p k cs)) w):=by
 have hW:=wf_of hv;have hob:=hW.obs;have hgl:=graph_len hob;have hge:=graph_range hW;have HGR:=hid (fun (W:World) (hb:Below w.heap.size w W)=>graph_any p hfit hv W (h.next hb));have HOB:=hid (fun (W:World) (hb:Below w.heap.size w W) (k:Nat) (hk:k<p.obs.length)=>(h.next hb).ob hk);have HNO:Hid (verB p k cs=false→verE p k cs=28):=hid (fun e=>by unfold verE; rw [e]; rfl);unfold Prg.val at HGR ⊢;clear h hfit hv hW;generalize p.obA=oa at HGR HOB ⊢;go_enter Tryz.func14,Tryz.ntmps14;go_upto_region 1 with fail;have hT1:=two_new w #[.slice p.funA p.funs.length p.funC,.slice oa p.obs.length p.obC,.slice p.vrA p.vrs.length p.vrC] #[.int .i64 k,.slice A cs.length c] 26 29
 have hz1:w.heap.size+2≤((w.alloc (.cells #[.slice p.funA p.funs.length p.funC,.slice oa p.obs.length p.obC,.slice p.vrA p.vrs.length p.vrC] 26)).alloc (.cells #[.int .i64 k,.slice A cs.length c] 29)).heap.size:=by simp
 have hB1:CBox (w.heap.size+1) k A c cs ((w.alloc (.cells #[.slice p.funA p.funs.length p.funC,.slice oa p.obs.length p.obC,.slice p.vrA p.vrs.length p.vrC] 26)).alloc (.cells #[.int .i64 k,.slice A cs.length c] 29)):=⟨hT1.snd,Rd.more (hcs.below hT1.below) (by omega)⟩
 clear hcs;generalize World.alloc _ _=w1 at hT1 hz1 hB1 ⊢;obtain ⟨x0,x1,x2⟩:=bx3 hT1.fst;have HG1:=hid (HGR.out w1 hT1.below);go_wp2_with fail;refine HG1.out.mono ?_;rintro e w2 ⟨gv,rfl,hE,hb2⟩;obtain ⟨Ag,Cg,rfl,hE2⟩:=own_eds hE;have hT2:=hT1.next hb2;have hB2:=hB1.below hb2 (by omega);have hz2:w.heap.size+2≤w2.heap.size:=Nat.le_trans hz1 hb2.size;clear x0 x1 x2 hE HG1 hT1 hb2 HGR hB1 hz1;obtain ⟨x0,x1,x2⟩:=bx3 hT2.fst;have b0:=hB2.bx 0 _ rfl;have b1:=hB2.bx 1 _ rfl;by_cases hk1:k=1
 ·have e1:(k != 1)=false:=by simpa using hk1
  by_cases hlen:cs.length=p.obs.length
  ·have e2:((cs.length:Int) != (p.obs.length:Int))=false:=by rw [hlen]; simp
   have e3:(cs.length != p.obs.length)=false:=by rw [hlen]; simp
   have HOK:Hid ((List.range p.obs.length).all (rkB p cs)=true→(graphOf p).any (badE cs)=false→verE p k cs=0):=hid (fun q1 q2=>by unfold verE verB; rw [q1,q2,decide_eq_true hk1,decide_eq_true hlen]; rfl);have HN1:Hid ((List.range p.obs.length).all (rkB p cs)=false→verE p k cs=28):=hid (fun q1=>HNO.out (by unfold verB; rw [q1]; simp));have HN2:Hid ((graphOf p).any (badE cs)=true→verE p k cs=28):=hid (fun q1=>HNO.out (by unfold verB; rw [q1]; simp));have HLEN:=hid hlen;have hlz:(cs.length:Int)=(p.obs.length:Int):=by rw [hlen]
   clear hk1 hlen HNO;have HLZ:=hid hlz;clear hlz;have hB0:=hB2;go_upto_region 7 with fail;clear x0 x1 x2 b0 b1 hB2;go_loopw [7,8,32] (fun _ _ i wr=>∃ j:Nat,i=.int .i64 (j:Nat)∧j≤p.obs.length∧(List.range j).all (rkB p cs)=true∧Below w2.heap.size w2 wr) (fun _ _ i _=>p.obs.length - (intOf i).toNat)
   case atStart=>exact ⟨0,rfl,by omega,rfl,Below.refl _ _⟩
   case round=>
    obtain ⟨j,rfl,hj,hall,hb⟩:=hrel;have HALL:=hid hall;clear hall;have hj0:=zi j;have hwr:=Wi j (by omega);have hzz:=hb.size;by_cases hlt:j<p.obs.length
    ·have hd1:=Dt (show (j:Int)<p.obs.length by omega)
     have hd2:=Dt hlt;have hjl:(j:Int)<(p.obs.length:Int):=by omega
     have hjc:(j:Int)<(cs.length:Int):=by have:=HLZ.out; omega
     obtain ⟨ob,oo,rfl,-,q0,q1,q2,q3⟩:=HOB.out wr (hT2.below.trans (hb.mono hT2.below.size)) j hlt;obtain ⟨x0,x1,x2⟩:=bx3 (hT2.next hb).fst;have HLT:=hid hlt;obtain ⟨rb,roff,rfl,rj⟩:=(hB0.below hb (by omega)).rank (i:=j) (by have:=HLEN.out; omega)
     have HR0:=hid (show rkB p cs j=if lockB p.obs[j] then decide (0<cs[j]'(by have:=HLEN.out; omega)) else decide (cs[j]'(by have:=HLEN.out; omega)=0) by
      unfold rkB;rw [List.getD_eq_getElem?_getD,List.getElem?_eq_getElem hlt,List.getD_eq_getElem?_getD,List.getElem?_eq_getElem (by have:=HLEN.out; omega)]; rfl)
     have HLK0:=hid (fun W=>lock_any p.obs[j] W);unfold Ob.cells at HLK0;generalize p.obs[j]=oj at q0 q1 q2 q3 HR0 HLK0;generalize cs[j]'(by have:=HLEN.out; omega)=z at rj HR0;clear hlt;go_upto_region 9 with fail;have hX:=bx_new wr #[.string oj.name,.int .i64 oj.kind,.int .i64 oj.size,.int .i64 oj.other] 65;have hba:=hb.trans (below_alloc2 hzz (.cells #[.string oj.name,.int .i64 oj.kind,.int .i64 oj.size,.int .i64 oj.other] 65));have hB:CBox (w.heap.size+1) k (some ⟨rb,roff,none⟩) c cs (wr.alloc (.cells #[.string oj.name,.int .i64 oj.kind,.int .i64 oj.size,.int .i64 oj.other] 65)):=hB0.below hba (by omega);have r5:=((below_alloc wr (.cells #[.string oj.name,.int .i64 oj.kind,.int .i64 oj.size,.int .i64 oj.other] 65)).cell (block_lt_of_cell rj)).trans rj;clear x0 x1 x2 q0 q1 q2 q3 rj hb;generalize wr.alloc _=wa at hX hba hB r5 ⊢
     have y0:=fun d os=>cell_regrown (w:=wa) (hX 0 _ rfl) d os
     have y1:=fun d os=>cell_regrown (w:=wa) (hX 1 _ rfl) d os
     have y2:=fun d os=>cell_regrown (w:=wa) (hX 2 _ rfl) d os
     have y3:=fun d os=>cell_regrown (w:=wa) (hX 3 _ rfl) d os
     have y4:=fun d os=>cell_regrown (w:=wa) (hB.bx 1 _ rfl) d os
     have y5:=fun d os=>cell_regrown (w:=wa) r5 d os
     have y6:=y5;have y7:=y4;clear r5;have HLK:=hid (fun d os=>HLK0.out (grow (redrawn wa d) os));clear HLK0
     cases hlb:lockB oj with
     | true=>
      rw [hlb] at HR0 HLK;clear hlb;by_cases hz0:0<z
      ·have c1:=Dt hz0
       have HRK:Hid (rkB p cs j=true):=hid (by rw [HR0.out]; simpa using hz0);clear hz0;refine wp_region_quiet_below (by kernel_rfl) (by kernel_rfl) ?_
       repeat (go_big_quiet_step (first | exact Calls.regrown_of (HLK.out _ _)))
       refine wpQuiet_nil ?_;rintro _ ⟨pq,rfl⟩;have hb5:=hba.trans ((below_regrown wa pq.d pq.os).mono hba.size);clear y0 y1 y2 y3 y4 y5 y6 y7 hB hX hba HLK;generalize grow (redrawn wa pq.d) pq.os=w5 at hb5 ⊢;go_wp2_with fail;go_round
       case rel=>exact ⟨j+1,rfl,by omega,by rw [List.range_succ,List.all_append,HALL.out]; simp [HRK.out],hb5⟩
       case measure=>exact ms (by omega)
      ·have c1:=Df hz0
       have HRK:Hid (rkB p cs j=false):=hid (by rw [HR0.out]; simpa using hz0);clear hz0;have HVE:=hid (HN1.out (List.all_eq_false.2 ⟨j,List.mem_range.2 HLT.out,by rw [HRK.out]; decide⟩));refine wp_region_quiet_below (by kernel_rfl) (by kernel_rfl) ?_
       repeat (go_big_quiet_step (first | exact Calls.regrown_of (HLK.out _ _)))
       refine wpQuiet_nil ?_;rintro _ ⟨pq,rfl⟩;have hb5:=hba.trans ((below_regrown wa pq.d pq.os).mono hba.size);clear y0 y1 y2 y3 y4 y5 y6 y7 hB hX hba HLK;generalize grow (redrawn wa pq.d) pq.os=w5 at hb5 ⊢;go_wp2_with fail;go_ret;exact ⟨by rw [HVE.out]; rfl,hT2.below.trans (hb5.mono hT2.below.size)⟩
     | false=>
      rw [hlb] at HR0 HLK;clear hlb;by_cases hz0:0<z
      ·have c1:=Dt hz0
       have HRK:Hid (rkB p cs j=false):=hid (by rw [HR0.out]; simp; omega);clear hz0;have HVE:=hid (HN1.out (List.all_eq_false.2 ⟨j,List.mem_range.2 HLT.out,by rw [HRK.out]; decide⟩));refine wp_region_quiet_below (by kernel_rfl) (by kernel_rfl) ?_
       repeat (go_big_quiet_step (first | exact Calls.regrown_of (HLK.out _ _)))
       refine wpQuiet_nil ?_;rintro _ ⟨pq,rfl⟩;have hb5:=hba.trans ((below_regrown wa pq.d pq.os).mono hba.size);clear y0 y1 y2 y3 y4 y5 y6 y7 hB hX hba HLK;generalize grow (redrawn wa pq.d) pq.os=w5 at hb5 ⊢;go_wp2_with fail;go_ret;exact ⟨by rw [HVE.out]; rfl,hT2.below.trans (hb5.mono hT2.below.size)⟩
      ·have c1:=Df hz0
       by_cases hz1:z=0
       ·have c2:(z != 0)=false:=by simpa using hz1
        have HRK:Hid (rkB p cs j=true):=hid (by rw [HR0.out]; simp; omega);clear hz0 hz1;refine wp_region_quiet_below (by kernel_rfl) (by kernel_rfl) ?_
        repeat (go_big_quiet_step (first | exact Calls.regrown_of (HLK.out _ _)))
        refine wpQuiet_nil ?_;rintro _ ⟨pq,rfl⟩;have hb5:=hba.trans ((below_regrown wa pq.d pq.os).mono hba.size);clear y0 y1 y2 y3 y4 y5 y6 y7 hB hX hba HLK;generalize grow (redrawn wa pq.d) pq.os=w5 at hb5 ⊢;go_wp2_with fail;go_round
        case rel=>exact ⟨j+1,rfl,by omega,by rw [List.range_succ,List.all_append,HALL.out]; simp [HRK.out],hb5⟩
        case measure=>exact ms (by omega)
       ·have c2:(z != 0)=true:=by simpa using hz1
        have HRK:Hid (rkB p cs j=false):=hid (by rw [HR0.out]; simp; omega);clear hz0 hz1;have HVE:=hid (HN1.out (List.all_eq_false.2 ⟨j,List.mem_range.2 HLT.out,by rw [HRK.out]; decide⟩));refine wp_region_quiet_below (by kernel_rfl) (by kernel_rfl) ?_
        repeat (go_big_quiet_step (first | exact Calls.regrown_of (HLK.out _ _)))
        refine wpQuiet_nil ?_;rintro _ ⟨pq,rfl⟩;have hb5:=hba.trans ((below_regrown wa pq.d pq.os).mono hba.size);clear y0 y1 y2 y3 y4 y5 y6 y7 hB hX hba HLK;generalize grow (redrawn wa pq.d) pq.os=w5 at hb5 ⊢;go_wp2_with fail;go_ret;exact ⟨by rw [HVE.out]; rfl,hT2.below.trans (hb5.mono hT2.below.size)⟩
    ·have hd1:=Df (show ¬ (j:Int)<p.obs.length by omega)
     have hd2:=Df hlt;have hjn:j=p.obs.length:=by omega
     rw [hjn] at HALL;have HV:=hid (verContains_any (w.heap.size+1) k A c cs Ag Cg (graphOf p) (by omega) (by rw [HLEN.out]; exact hge) wr (hB0.below hb (by omega)) (by omega) (Rd.more (hE2.below hb) hb.size));unfold verVal at HV;go_wp2_with fail;refine HV.out.mono ?_;rintro e w5 ⟨rfl,hb5⟩;have hb6:=hT2.below.trans ((hb.trans (hb5.mono hzz)).mono hT2.below.size)
     cases hq:(graphOf p).any (badE cs) with
     | true=>
      have HVE:=hid (HN2.out hq);clear hq;go_wp2_with fail;go_ret;exact ⟨by rw [HVE.out]; rfl,hb6⟩
     | false=>
      have HVE:=hid (HOK.out HALL.out hq);clear hq;go_wp2_with fail;go_ret;exact ⟨by rw [HVE.out]; rfl,hb6⟩
  ·have e2:((cs.length:Int) != (p.obs.length:Int))=true:=by simp; omega
   have e3:(cs.length != p.obs.length)=true:=by simpa using hlen
   have HVE:=hid (HNO.out (by unfold verB; rw [decide_eq_false hlen]; simp));clear hk1 hlen;go_wp2_with fail;go_ret;exact ⟨by rw [HVE.out]; rfl,hT2.below⟩
 ·have e1:(k != 1)=true:=by simpa using hk1
  have HVE:=hid (HNO.out (by unfold verB; rw [decide_eq_false hk1]; rfl));clear hk1;go_wp2_with fail;go_ret;exact ⟨by rw [HVE.out]; rfl,hT2.below⟩
end
end Go.Proofs.YtkpjdanfpolimaaGreat
