/- The reference's reached, walked: the instructions that can be reached from the one behind  · The reference's Inside, walked. Conditions: the program is valid and lies in memory, the p · The reference's within, walked: it returns what lockor -/
import Derived.Test.YtkpjdanfpolimaaGreatLcRaW
import Derived.Deep.LoopGhost
set_option linter.unusedSimpArgs false
set_option maxRecDepth 100000
set_option maxHeartbeats 12800000
namespace Go.Proofs.YtkpjdanfpolimaaGreat
section
open Go.RowKit Go.Shelf
def reachR (p:Prg) (f start:Nat) (stop:Int):List Nat:=(List.range (p.len f)).filter (fun j=>decide (j∈fromL p f start stop))
theorem Reach.lt {p:Prg} {f start:Nat} {stop:Int} {x:Nat} (h:Reach p f start stop x):x<p.len f:=by
 cases h with
 | start h=>exact h
 | step _ h _=>exact nextM_lt h
def RcS (p:Prg) (f start:Nat) (stop:Int) (seen:List Nat):Prop:=(∀ j∈seen,Reach p f start stop j)∧(start<p.len f→(start:Int)≠stop→start∈seen)
def RcShut (p:Prg) (f:Nat) (stop:Int) (seen:List Nat) (i:Nat):Prop:=∀ j,j<i→j∈seen→∀ n∈nextM p f j,(n:Int)=stop∨n∈seen
theorem rcs_done {p:Prg} {f start:Nat} {stop:Int} {seen:List Nat} (h:RcS p f start stop seen) (hs:RcShut p f stop seen (p.len f)) (j:Nat):j∈seen↔j∈fromL p f start stop:=by
 rw [from_iff];constructor
 ·exact h.1 j
 ·intro k
  induction k with
  | start h1 h2=>exact h.2 h1 h2
  | step k1 h1 h2 ih=>exact (hs _ k1.lt ih _ h1).resolve_left h2
theorem rcs_start {p:Prg} {f start:Nat} {stop:Int} (h:start<p.len f) (hn:(start:Int)≠stop):RcS p f start stop [start]:=⟨fun j hj=>by
 have:j=start:=by simpa using hj
 subst this; exact .start h hn,fun _ _=>by simp⟩
theorem rcs_none {p:Prg} {f start:Nat} {stop:Int} (h:¬ (start<p.len f∧(start:Int)≠stop)):RcS p f start stop []:=⟨fun j hj=>by simp at hj,fun a b=>absurd ⟨a,b⟩ h⟩
theorem RcS.push {p:Prg} {f start:Nat} {stop:Int} {seen:List Nat} (h:RcS p f start stop seen) {j n:Nat} (hj:j∈seen) (hn:n∈nextM p f j) (hs:(n:Int)≠stop):RcS p f start stop (n::seen):=
 ⟨fun x hx=>by
  rcases List.mem_cons.1 hx with rfl | hx
  ·exact (h.1 j hj).step hn hs
  ·exact h.1 x hx,fun a b=>List.mem_cons_of_mem _ (h.2 a b)⟩
structure RcI (p:Prg) (w:World) (n:Nat) (seen:List Nat) (W:World):Prop where
 bx:Bx W w.heap.size [.slice p.funA p.funs.length p.funC,.slice p.obA p.obs.length p.obC,.slice p.vrA p.vrs.length p.vrC]
 row:W.rowIs (w.heap.size+1) 4 n (seenF seen)
 below:Below w.heap.size w W
 size:w.heap.size+2≤W.heap.size
theorem RcI.next {p:Prg} {w W W':World} {n:Nat} {seen:List Nat} (h:RcI p w n seen W) (hb:Below W.heap.size W W'):RcI p w n seen W':=by
 have:=h.size;have:=hb.size;exact ⟨h.bx.below hb (by omega),h.row.of_block (hb.block _ (by omega)),h.below.trans (hb.mono h.below.size),by omega⟩
theorem RcI.mark {p:Prg} {w W:World} {n:Nat} {seen:List Nat} (h:RcI p w n seen W) (f:Nat):RcI p w n (f::seen) (W.setCell ⟨w.heap.size+1,f,none⟩ (.bool true)):=by
 refine ⟨fun j v hv=>(World.cell?_setCell_far _ _ _ _ (by show w.heap.size+1≠w.heap.size; omega)).trans (h.bx j v hv),(h.row.set f (.bool true)).congr (fun i _=>?_),h.below.setCell (p:=⟨w.heap.size+1,f,none⟩) (by show w.heap.size≤w.heap.size+1; omega) _,by simpa using h.size⟩;by_cases e:i=f
 ·subst e; simp [seenF]
 ·simp [seenF,e]
theorem RcI.grown {p:Prg} {w W W':World} {n:Nat} {seen:List Nat} (h:RcI p w n seen W) {row:Option Nat} (hg:W.grownBy W' row) (hr:∀ g,row=some g→w.heap.size+2≤g):RcI p w n seen W':=by
 have:=h.size;have:=hg.size;refine ⟨fun j v hv=>hg.cell (h.bx j v hv) (fun e=>by have:=hr _ e.symm; dsimp only at this; omega),h.row.of_block (hg.block _ (by omega) (fun e=>by have:=hr _ e.symm; omega)),h.below.grown hg (by omega) (fun g e=>by have:=hr g e; omega),by omega⟩
theorem rreach_any (p:Prg) (hv:prgOk p) (f k:Nat) (stop:Int) (hf:f<p.funs.length) (hk:k<p.len f) (w:World) (h:Lies w w.heap.size p) :
  Calls Tryz.prog 116 #[p.val,.int .i64 f,.int .i64 k,.int .i64 stop] w (RetN w.heap.size (reachR p f (k+1) stop) w):=by
 have hW:=wf_of hv;have hl200:=hW.len f hf;have HNX:=hid (fun (W:World) (hb:Below w.heap.size w W) (j:Nat) (hj:j<p.len f)=>rnext_any p hv f j hf hj W (h.next hb));obtain ⟨i0,hi,hz⟩:=Option.map_eq_some_iff.1 i64info;have hz0:i0.zero=some (.int .i64 0):=congrArg (fun t=>t.1) hz;have hz1:i0.size=1:=congrArg (fun t=>t.2.1) hz;have hz2:i0.bytes=8:=congrArg (fun t=>t.2.2) hz;clear hz;obtain ⟨b,off,b2,off2,hA,hb,hb2,-,d5,-⟩:=h.at_ hf hk;have hval:p.val=.agg #[.slice (some ⟨b,off,none⟩) p.funs.length p.funC,.slice p.obA p.obs.length p.obC,.slice p.vrA p.vrs.length p.vrC]:=by rw [Prg.val,hA]
 have HRI:Hid (∀ W n seen,RcI p w n seen W→Bx W w.heap.size [.slice (some ⟨b,off,none⟩) p.funs.length p.funC,.slice p.obA p.obs.length p.obC,.slice p.vrA p.vrs.length p.vrC]):=hid (fun W n seen r=>by have:=r.bx; rw [hA] at this; exact this);rw [hval] at HNX ⊢;have hmk:=fun W=>run_make_row' (P:=Tryz.prog) 82 4 (.bool false) 1 Tryz.underlying82 (by kernel_rfl) rfl .i64 .i64 (p.len f) (by omega) (by omega) W
 have f0:=zi f;have f1:(f:Int)<(p.funs.length:Int):=by omega
 have k0:=zi k;have hw3:=Wi k (by omega);have HA:=hid hA;have hl0:=zi (p.len f);clear h hval hA;go_enter Tryz.func116,Tryz.ntmps116;go_upto_region 2 with fail
 have hI:RcI p w (p.len f) [] ((w.alloc (.cells #[.slice (some ⟨b,off,none⟩) p.funs.length p.funC,.slice p.obA p.obs.length p.obC,.slice p.vrA p.vrs.length p.vrC] 26)).alloc (.cells (madeCells #[.bool false] (p.len f)) 4)):=by
  have hT:=(one_new w #[.slice (some ⟨b,off,none⟩) p.funs.length p.funC,.slice p.obA p.obs.length p.obC,.slice p.vrA p.vrs.length p.vrC] 26).next (below_alloc _ (.cells (madeCells #[.bool false] (p.len f)) 4));have hr:=World.rowIs_made (w.alloc (.cells #[.slice (some ⟨b,off,none⟩) p.funs.length p.funC,.slice p.obA p.obs.length p.obC,.slice p.vrA p.vrs.length p.vrC] 26)) (.bool false) (p.len f) 4;rw [World.size_alloc] at hr;exact ⟨by rw [HA.out]; exact hT.fst,hr.congr (fun i _=>rfl),hT.below,by simp⟩
 generalize World.alloc _ _=W1 at hI ⊢;clear hmk d5;rename_i K hK K2 hK2
 have key:∀ (u24 u25 u26 u27 u28 u29 u30 u31 u32 u33 u34 u35 u36 u37 u38:Value) (seen:List Nat) (W:World),RcI p w (p.len f) seen W→RcS p f (k+1) stop seen→K ⟨#[.agg #[.slice (some ⟨b,off,none⟩) p.funs.length p.funC,.slice p.obA p.obs.length p.obC,.slice p.vrA p.vrs.length p.vrC],.int .i64 f,.int .i64 k,.int .i64 stop,.pointer (some ⟨w.heap.size,0,none⟩),undef,undef,undef,.slice none 0 0,.slice (some ⟨w.heap.size+1,0,none⟩) (p.len f) (p.len f),undef,undef,undef,undef,undef,undef,.pointer (some ⟨w.heap.size,0,none⟩),.slice (some ⟨b,off,none⟩) p.funs.length p.funC,.int .i64 f,.pointer (some ⟨b,off+f * 6,none⟩),.pointer (some ⟨b,off+f * 6+5,none⟩),.slice (some ⟨b2,off2,none⟩) (p.len f) (p.fn f).codeC,.int .i64 (p.len f),.slice (some ⟨w.heap.size+1,0,none⟩) (p.len f) (p.len f),u24,u25,u26,u27,u28,u29,u30,u31,u32,u33,u34,u35,u36,u37,u38,undef,undef,undef,undef,undef,undef,undef,undef,undef,undef,undef,undef,undef,undef,undef,undef,undef,undef,undef,undef,undef,undef,undef,undef,undef,undef,undef,undef,undef,undef,undef,undef,undef,undef,undef,undef,undef,undef,undef,undef,undef,undef,undef,undef,undef,undef,undef,undef,undef,undef,undef,undef,undef,undef,undef,undef,undef,undef,undef,undef],[]⟩ W:=by
  intro u24 u25 u26 u27 u28 u29 u30 u31 u32 u33 u34 u35 u36 u37 u38 seen W hI hS;refine hK _ _ ?_;clear hK;go_upto_region 5 with fail;go_loopg [10] (2 * unseen (p.len f) seen+1) (fun n v wr=>∃ (seen:List Nat) (ag:Bool),v=.bool ag∧n=2 * unseen (p.len f) seen+(if ag then 1 else 0)∧RcI p w (p.len f) seen wr∧RcS p f (k+1) stop seen∧(ag=false→RcShut p f stop seen (p.len f)))
  case atStart=>exact ⟨seen,true,rfl,rfl,hI,hS,fun e=>by cases e⟩
  case round=>
   clear hI hS;obtain ⟨seen0,ag,rfl,hgk,hI,hS,hSh⟩:=hrel
   cases ag with
   | false=>
    have HD:=hid (fun j=>rcs_done hS (hSh rfl) j);clear hSh hS hgk;go_upto_region 19 with fail;have hown:=ownI_lit wr;have hba:=below_alloc wr (.cells #[] 3);have hI2:=hI.next hba;generalize wr.alloc _=W5 at hown hI2 ⊢;clear hba;generalize (Value.slice (some ⟨wr.heap.size,0,none⟩) 0 0)=u0 at hown ⊢;have hown:=ownI_mono hown hI.size;clear hI;go_loopw [14,15] (fun a v wr=>∃ j:Nat,v=.int .i64 j∧j≤p.len f∧OwnI wr (w.heap.size+2) a (nats ((List.range j).filter (fun j=>decide (j∈fromL p f (k+1) stop))))∧RcI p w (p.len f) seen0 wr) (fun _ v _=>p.len f - (intOf v).toNat)
    case atStart=>exact ⟨0,rfl,by omega,hown,hI2⟩
    case round=>
     obtain ⟨j,rfl,hj,hown,hI⟩:=hrel;have hj0:=zi j;have hwr1:=Wi j (by omega);by_cases hlt:j<p.len f
     ·have hd1:=Dt (show (j:Int)<p.len f by omega)
      have hd2:=Dt hlt;have hjl:(j:Int)<(p.len f:Int):=by omega
      have cj:=hI.row.cell hlt;have hcs:seenF seen0 j=.bool (decide (j∈fromL p f (k+1) stop)):=by unfold seenF; rw [decide_eq_decide.2 (HD.out j)]
      rw [hcs] at cj;clear hcs
      have hls:((List.range (j+1)).filter (fun j=>decide (j∈fromL p f (k+1) stop)))=((List.range j).filter (fun j=>decide (j∈fromL p f (k+1) stop)))++(if decide (j∈fromL p f (k+1) stop) then [j] else []):=by
       rw [List.range_succ,List.filter_append];congr 1;cases h:decide (j∈fromL p f (k+1) stop) <;> simp [h]
      have hl16:((List.range j).filter (fun j=>decide (j∈fromL p f (k+1) stop))).length≤j:=Nat.le_trans (List.length_filter_le _ _) (by rw [List.length_range]; exact Nat.le_refl _);obtain ⟨l2,hl2⟩:∃ l2,(List.range (j+1)).filter (fun j=>decide (j∈fromL p f (k+1) stop))=l2:=⟨_,rfl⟩
      rw [hl2] at hls;have HE:=hid hl2;clear hl2;generalize (List.range j).filter (fun j=>decide (j∈fromL p f (k+1) stop))=l at hown hls hl16;have HLS:=hid hls;clear hls
      cases hbit:decide (j∈fromL p f (k+1) stop) with
      | true=>
       rw [hbit] at cj;have HL2:=hid (show l2=l++[j] from by rw [HLS.out,hbit]; rfl);clear HLS hbit;obtain ⟨A,c,rfl⟩:=own_form hown;unfold OwnI at hown;have hnl:(nats l).length=l.length:=by simp [nats]
       have hmx:(nats l).length+1≤maxLen:=by unfold maxLen; omega
       have hby:((nats l).length+1) * 8≤140737488355328:=by omega
       have hbs:w.heap.size+2≤(wr.alloc (.cells #[.int .i64 (j:Int)] 3)).heap.size:=by have:=hI.size; simp; omega
       have hIa:=hI.next (below_alloc wr (.cells #[.int .i64 (j:Int)] 3));clear hnl hl16;go_wp2_with (at_builtin; refine wpList_append_own _ rfl (.tmp 94) (.tmp 96) _ rfl (w.heap.size+2) 3 i0 (.int .i64 0) 1 8 Tryz.underlying27 hi hz0 hz1 hz2 rfl (by omega) _ _ _ rfl (World.ownsRow.alloc hown _) ⟨wr.heap.size,0,none⟩ 1 1 [.int .i64 j] rfl rfl (cell_one _ _ _) (by simp [Value.oneCell']) hmx hby hbs ?_; intro v2 w3 hown2 hg2 _);exact ⟨⟨j+1,by go_num,by omega,by rw [HE.out]; exact ownI_of_eq (by simp [nats,HL2.out]) (by simp [nats,HL2.out,i64s_append]; rfl) hown2,hIa.grown hg2 (fun g e=>(World.ownsRow.lt hown g e).1)⟩,by simp [intOf]; omega⟩
      | false=>
       rw [hbit] at cj;have HL2:=hid (show l2=l from by rw [HLS.out,hbit]; simp);clear HLS hbit;go_wp2_with fail;exact ⟨⟨j+1,by go_num,by omega,by rw [HE.out,HL2.out]; exact hown,hI⟩,by simp [intOf]; omega⟩
     ·have hd1:=Df (show ¬ (j:Int)<p.len f by omega)
      have hd2:=Df hlt;have hje:j=p.len f:=by omega
      go_wp2_with fail;go_ret;rw [hje] at hown;exact retN_own (ownI_mono hown (Nat.le_add_right _ 2)) hI.below
   | true=>
    go_upto_region 8 with fail;have hgk:gk=2 * unseen (p.len f) seen0+1:=hgk;clear hSh;have HGK:=hid hgk;clear hgk;go_loopw [10,11] (fun v i wr=>∃ (sn:List Nat) (ag:Bool) (j:Nat),v=.bool ag∧i=.int .i64 j∧j≤p.len f∧RcI p w (p.len f) sn wr∧RcS p f (k+1) stop sn∧(ag=false→sn=seen0∧RcShut p f stop seen0 j)∧(ag=true→unseen (p.len f) sn<unseen (p.len f) seen0)) (fun _ v _=>p.len f - (intOf v).toNat)
    case atStart=>exact ⟨seen0,false,0,rfl,rfl,by omega,hI,hS,fun _=>⟨rfl,fun j hj=>by omega⟩,fun e=>by cases e⟩
    case round=>
     clear hI hS;obtain ⟨sn,ag,j,rfl,rfl,hj,hI,hS,hF,hT⟩:=hrel;have hj0:=zi j;have hwr1:=Wi j (by omega);have HFT:=hid (And.intro hF hT);clear hF hT;by_cases hlt:j<p.len f
     ·have hd1:=Dt (show (j:Int)<p.len f by omega)
      have hd2:=Dt hlt;have hjl:(j:Int)<(p.len f:Int):=by omega
      have cj:=hI.row.cell hlt;by_cases hm:j∈sn
      ·have hcs:seenF sn j=.bool true:=by simp [seenF,hm]
       rw [hcs] at cj;clear hcs;obtain ⟨x0,x1,x2⟩:=bx3 (HRI.out _ _ _ hI);have HN:=hid (HNX.out wr hI.below j hlt);have hnl:(nextM p f j).length≤2:=next_le p f j;have HNB:Hid (∀ n∈nextM p f j,n<p.len f):=hid (fun n hn=>nextM_lt hn);have hzw:=hI.size;go_wp2_with fail;refine HN.out.mono ?_;rintro e W7 ⟨A7,c7,rfl,hr7,hf7,hb7⟩;have hI7:=hI.next hb7;clear HN hI x0 x1 x2 cj hb7;have HPU:Hid (∀ s,RcS p f (k+1) stop s→j∈s→∀ n∈nextM p f j,(n:Int)≠stop→RcS p f (k+1) stop (n::s)):=hid (fun s h1 h2 n h3 h4=>h1.push h2 h3 h4)
       have HSH:Hid ((∀ n∈nextM p f j,(n:Int)=stop∨n∈sn)→sn=seen0∧RcShut p f stop seen0 j→sn=seen0∧RcShut p f stop seen0 (j+1)):=hid (fun h1 h2=>⟨h2.1,fun a ha hm2=>by
        by_cases e:a=j
        ·subst e; rw [← h2.1]; exact h1
        ·exact h2.2 a (by omega) hm2⟩)
       generalize nextM p f j=nx at hr7 hnl HNB HPU HSH ⊢;by_cases hnil:nx.length=0
       ·have hdn:=Df (show ¬ (0:Int)<nx.length by omega)
        have hnx:nx=[]:=List.eq_nil_of_length_eq_zero hnil;rw [hnil];go_upto_region 13 with fail;go_loopw [10,13] (fun t v wr=>t=.bool ag∧v=.int .i64 0∧wr=W7) (fun _ _ _=>0)
        case atStart=>exact ⟨rfl,rfl,rfl⟩
        case round=>
         obtain ⟨rfl,rfl,rfl⟩:=hrel;go_wp2_with fail;go_round
         case rel=>exact ⟨sn,ag,j+1,rfl,rfl,by omega,hI7,hS,fun e=>HSH.out (by rw [hnx]; simp) (HFT.out.1 e),HFT.out.2⟩
         case measure=>exact ms (by omega)
       ·obtain ⟨b7,o7,rfl,hb7,hc7⟩:=hr7.addr (by omega)
        have hfr:=hf7 b7 o7 rfl;have hc7:∀ i (h:i<nx.length),W7.cell? ⟨b7,o7+i,none⟩=some (.int .i64 (nx[i]:Int)):=fun i h=>hc7 i _ (by simp [i64s,nats,h])
        clear hr7 hf7;have HC7:=hid hc7;clear hc7;go_upto_region 13 with fail;go_loopw [10,13] (fun v i wr=>∃ (s3:List Nat) (a3:Bool) (q:Nat),v=.bool a3∧i=.int .i64 q∧q≤nx.length∧RcI p w (p.len f) s3 wr∧RcS p f (k+1) stop s3∧j∈s3∧(∀ i (h:i<nx.length),wr.cell? ⟨b7,o7+i,none⟩=some (.int .i64 (nx[i]:Int)))∧(a3=false→ag=false∧s3=sn∧∀ i (h:i<nx.length),i<q→(nx[i]:Int)=stop∨nx[i]∈sn)∧(a3=true→ag=true∧s3=sn∨unseen (p.len f) s3<unseen (p.len f) seen0)) (fun _ v _=>nx.length - (intOf v).toNat)
        case atStart=>exact ⟨sn,ag,0,rfl,rfl,by omega,hI7,hS,hm,HC7.out,fun e=>⟨e,rfl,fun i h h2=>by omega⟩,fun e=>.inl ⟨e,rfl⟩⟩
        case round=>
         clear hI7 hS hm HC7;obtain ⟨s3,a3,q,rfl,rfl,hq,hI,hS,hm,hc7,hF,hT⟩:=hrel;have hq0:=zi q;have hwq:=Wi q (by omega);have HF3:=hid (And.intro hF hT);clear hF hT;by_cases hlq:q<nx.length
         ·have hd3:=Dt (show (q:Int)<nx.length by omega)
          have hd4:=Dt hlq;have hql:(q:Int)<(nx.length:Int):=by omega
          have cq:=hc7 q hlq;have HC7:=hid hc7;clear hc7;have hmem:=List.getElem_mem hlq
          have HSX:Hid ((nx[q]:Int)=stop∨nx[q]∈sn→(a3=false→ag=false∧s3=sn∧∀ i (h:i<nx.length),i<q+1→(nx[i]:Int)=stop∨nx[i]∈sn)):=hid (fun h1 e=>⟨(HF3.out.1 e).1,(HF3.out.1 e).2.1,fun i h hi2=>by
           by_cases ei:i=q
           ·subst ei; exact h1
           ·exact (HF3.out.1 e).2.2 i h (by omega)⟩)
          generalize nx[q]=x at cq hmem HSX;have hxn:=HNB.out x hmem;by_cases hxs:(x:Int)=stop
          ·have g1:((x:Int) != stop)=false:=by simp [hxs]
           have HS2:=hid (HSX.out (.inl hxs));clear hxs hmem;go_wp2_with fail;go_round
           case rel=>exact ⟨s3,a3,q+1,rfl,rfl,by omega,hI,hS,hm,HC7.out,HS2.out,HF3.out.2⟩
           case measure=>exact ms (by omega)
          ·have g1:((x:Int) != stop)=true:=by simp [hxs]
           have cx:=hI.row.cell hxn;have hx0:=zi x;have hxl:(x:Int)<(p.len f:Int):=by omega
           by_cases hxm:x∈s3
           ·have hcs:seenF s3 x=.bool true:=by simp [seenF,hxm]
            rw [hcs] at cx;have HS2:Hid (a3=false→_):=hid (fun e=>HSX.out (.inr (by rw [← (HF3.out.1 e).2.1]; exact hxm)) e);clear hcs hxs hmem hxm;go_wp2_with fail;go_round
            case rel=>exact ⟨s3,a3,q+1,rfl,rfl,by omega,hI,hS,hm,HC7.out,HS2.out,HF3.out.2⟩
            case measure=>exact ms (by omega)
           ·have hcs:seenF s3 x=.bool false:=by simp [seenF,hxm]
            rw [hcs] at cx;have fx:=hI.row.frozen x;have hI2:=hI.mark x;have hS2:=HPU.out s3 hS hm x hmem hxs;have HU:=hid (unseen_lt hxn hxm);clear hcs hxs hmem hxm hS hI;go_wp2_with fail;go_round
            case rel=>
             refine ⟨x::s3,true,q+1,rfl,rfl,by omega,hI2,hS2,List.mem_cons_of_mem _ hm,fun i h=>(World.cell?_setCell_far _ _ _ _ (by show w.heap.size+1≠b7; omega)).trans (HC7.out i h),(nomatch ·),fun _=>.inr ?_⟩;have hu:=HU.out
             cases a3 with
             | false=>have h1:=(HF3.out.1 rfl); rw [h1.2.1,(HFT.out.1 h1.1).1] at hu; rw [h1.2.1,(HFT.out.1 h1.1).1]; exact hu
             | true=>
              rcases HF3.out.2 rfl with ⟨h1,h2⟩ | h1
              ·have:=HFT.out.2 h1; rw [← h2] at this; omega
              ·omega
            case measure=>exact ms (by omega)
         ·have hd3:=Df (show ¬ (q:Int)<nx.length by omega)
          have hd4:=Df hlq;have hqe:q=nx.length:=by omega
          go_wp2_with fail;go_round
          case rel=>
           refine ⟨s3,a3,j+1,rfl,rfl,by omega,hI,hS,fun e=>?_,fun e=>?_⟩
           ·obtain ⟨h1,h2,h3⟩:=HF3.out.1 e
            rw [h2];refine HSH.out (fun n hn=>?_) (HFT.out.1 h1);obtain ⟨i,hi2,rfl⟩:=List.mem_iff_getElem.1 hn;exact h3 i hi2 (by omega)
           ·rcases HF3.out.2 e with ⟨h1,h2⟩ | h1
            ·rw [h2]; exact HFT.out.2 h1
            ·exact h1
          case measure=>exact ms (by omega)
      ·have hcs:seenF sn j=.bool false:=by simp [seenF,hm]
       rw [hcs] at cj;clear hcs;go_wp2_with fail;go_round
       case rel=>
        refine ⟨sn,ag,j+1,rfl,rfl,by omega,hI,hS,fun e=>⟨(HFT.out.1 e).1,fun a ha hm2=>?_⟩,HFT.out.2⟩;by_cases ea:a=j
        ·subst ea; rw [(HFT.out.1 e).1] at hm; exact absurd hm2 hm
        ·exact (HFT.out.1 e).2 a (by omega) hm2
       case measure=>exact ms (by omega)
     ·have hd1:=Df (show ¬ (j:Int)<p.len f by omega)
      have hd2:=Df hlt;have hje:j=p.len f:=by omega
      go_wp2_with fail;go_roundg (2 * unseen (p.len f) sn+(if ag then 1 else 0))
      case measure=>
       rw [HGK.out]
       cases ag with
       | false=>rw [(HFT.out.1 rfl).1]; simp
       | true=>have:=HFT.out.2 rfl; simp; omega
      case rel=>exact ⟨sn,ag,rfl,rfl,hI,hS,fun e=>by rw [(HFT.out.1 e).1,← hje]; exact (HFT.out.1 e).2⟩
 clear hK;by_cases hst:k+1<p.len f∧((k+1:Nat):Int)≠stop
 ·have hS:=rcs_start (p:=p) (f:=f) hst.1 hst.2
  obtain ⟨hs1,hs2⟩:=hst;have g1:=Dt (show (k:Int)+1<(p.len f:Int) by omega);have g2:((k:Int)+1 != stop)=true:=by simp; omega
  have fz:=hI.row.frozen (k+1);have cl:=hI.row.cell hs1;have hs3:(k:Int)+1<(p.len f:Int):=by omega
  have hI2:=hI.mark (k+1);clear hI hs2;go_wp2_with fail;exact key _ _ _ _ _ _ _ _ _ _ _ _ _ _ _ _ _ hI2 hS
 ·have hS:=rcs_none (p:=p) (f:=f) hst
  by_cases hs1:k+1<p.len f
  ·have hs2:((k+1:Nat):Int)=stop:=Classical.byContradiction fun e=>hst ⟨hs1,e⟩
   have g1:=Dt (show (k:Int)+1<(p.len f:Int) by omega);have g2:((k:Int)+1 != stop)=false:=by simp; omega
   clear hst hs2;go_wp2_with fail;exact key _ _ _ _ _ _ _ _ _ _ _ _ _ _ _ _ _ hI hS
  ·have g1:=Df (show ¬ ((k:Int)+1<(p.len f:Int)) by omega)
   clear hst;go_wp2_with fail;exact key _ _ _ _ _ _ _ _ _ _ _ _ _ _ _ _ _ hI hS
end
section
open Go.RowKit Go.Shelf
theorem insideR_eq (p:Prg) (f k:Nat):insideR p f k=reachR p f (k+1) (insideStop p f k):=by
 unfold insideR reachR;rw [insideM_eq]
theorem mem_reachR {p:Prg} {f start:Nat} {stop:Int} {j:Nat}:j∈reachR p f start stop↔j∈fromL p f start stop:=by
 unfold reachR;rw [List.mem_filter,List.mem_range];exact ⟨fun h=>by simpa using h.2,fun h=>⟨from_mem h,by simpa using h⟩⟩
theorem reachR_len (p:Prg) (f start:Nat) (stop:Int):(reachR p f start stop).length≤p.len f:=Nat.le_trans (List.length_filter_le _ _) (by rw [List.length_range]; exact Nat.le_refl _)
theorem inside_twin {p:Prg} {f k j:Nat} (hj:j∈reachR p f (k+1) (p.ins f k).c) (ht:(p.ins f j).op=35∧(p.ins f j).c=(p.ins f k).c):insideR p f k=reachR p f (k+1) (-1):=by
 rw [insideR_eq];unfold insideStop;rw [if_pos];exact List.any_eq_true.2 ⟨j,mem_reachR.1 hj,by unfold twin; exact decide_eq_true ht⟩
theorem inside_none {p:Prg} {f k:Nat} (h:∀ j∈reachR p f (k+1) (p.ins f k).c,¬ ((p.ins f j).op=35∧(p.ins f j).c=(p.ins f k).c)):insideR p f k=reachR p f (k+1) (p.ins f k).c:=by
 rw [insideR_eq];unfold insideStop;rw [if_neg];intro e;obtain ⟨j,hj,e⟩:=List.any_eq_true.1 e;exact h j (mem_reachR.2 hj) (by unfold twin at e; simpa using e)
theorem rinside_any (p:Prg) (hv:prgOk p) (f k:Nat) (hf:f<p.funs.length) (hk:k<p.len f) (w:World) (h:Lies w w.heap.size p) :
  Calls Tryz.prog 90 #[p.val,.int .i64 f,.int .i64 k] w (RetN w.heap.size (insideR p f k) w):=by
 have hW:=wf_of hv;have hl200:=hW.len f hf;have HRE:=hid (fun (W:World) (hb:Below w.heap.size w W) (stop:Int)=>rreach_any p hv f k stop hf hk W (h.next hb));have HAT:=hid (fun (W:World) (hb:Below w.heap.size w W) (j:Nat) (hj:j<p.len f)=>(h.next hb).at_ hf hj);obtain ⟨b,off,b2,off2,hA,hb,hb2,-,d5,q0,q1,q2,q3,q4⟩:=h.at_ hf hk
 have HI0:Hid (∀ W,Below w.heap.size w W→∀ j,j<p.len f→W.cell? ⟨b2,off2+j * 5,none⟩=some (.int .i64 (p.ins f j).op)∧W.cell? ⟨b2,off2+j * 5+1,none⟩=some (.int .i64 (p.ins f j).a)∧W.cell? ⟨b2,off2+j * 5+2,none⟩=some (.int .i64 (p.ins f j).b)∧W.cell? ⟨b2,off2+j * 5+3,none⟩=some (.int .i64 (p.ins f j).c) ∧
   W.cell? ⟨b2,off2+j * 5+4,none⟩=some (.slice (p.ins f j).argA (p.ins f j).args.length (p.ins f j).argC)):=hid (fun W hbW j hj=>by
  obtain ⟨c,offc,c2,offc2,hA',hc,hc2,-,e5,e0,e1,e2,e3,e4⟩:=HAT.out W hbW j hj;rw [hA] at hA';injection hA' with hA';injection hA' with h1 h2;subst h1;subst h2;have d5':=(hbW.cell (p:=⟨b,off+f * 6+5,none⟩) hb).trans d5;rw [d5'] at e5;injection e5 with e5;injection e5 with e5 _ _;injection e5 with e5;injection e5 with h3 h4;subst h3;subst h4;exact ⟨e0,e1,e2,e3,e4⟩)
 unfold Prg.val at HRE ⊢;rw [hA] at HRE ⊢;have f0:=zi f;have f1:(f:Int)<(p.funs.length:Int):=by omega
 have k0:=zi k;have k1:(k:Int)<(p.len f:Int):=by omega
 clear h HAT;go_enter Tryz.func90,Tryz.ntmps90;go_upto_region 1 with fail;have hT:=one_new w #[.slice (some ⟨b,off,none⟩) p.funs.length p.funC,.slice p.obA p.obs.length p.obC,.slice p.vrA p.vrs.length p.vrC] 26;generalize World.alloc _ _=W1 at hT ⊢;have HD5:=hid d5;clear d5 q0 q1 q2 q3 q4;obtain ⟨x0,x1,x2⟩:=bx3 hT.fst;have d5:=(hT.below.cell (p:=⟨b,off+f * 6+5,none⟩) hb).trans HD5.out;obtain ⟨-,-,-,q3,-⟩:=HI0.out W1 hT.below k hk;have HR1:=hid (HRE.out W1 hT.below (p.ins f k).c);go_wp2_with fail;refine HR1.out.mono ?_;rintro e W2 ⟨A,c,rfl,hr,hfr,hb12⟩;have hT2:=hT.next hb12;have hW1s:=hT.below.size;have hlen:=reachR_len p f (k+1) (p.ins f k).c
 have HNO:Hid ((∀ j∈reachR p f (k+1) (p.ins f k).c,¬ ((p.ins f j).op=35∧(p.ins f j).c=(p.ins f k).c))→insideR p f k=reachR p f (k+1) (p.ins f k).c):=hid (inside_none (p:=p) (f:=f) (k:=k));have HTW:=hid (fun j hj ht=>inside_twin (p:=p) (f:=f) (k:=k) (j:=j) hj ht);have HML:Hid (∀ j∈reachR p f (k+1) (p.ins f k).c,j<p.len f):=hid (fun j hj=>from_mem (mem_reachR.1 hj));clear HR1 x0 x1 x2 d5 q3 hT hb12
 have HRL:Hid (∀ i (hi:i<(reachR p f (k+1) (p.ins f k).c).length),∃ b7 o7:Nat,A=some ⟨b7,o7,none⟩∧b7<W2.heap.size∧W2.cell? ⟨b7,o7+i,none⟩=some (.int .i64 ((reachR p f (k+1) (p.ins f k).c)[i]:Int))):=hid (fun i hi=>by
  obtain ⟨b7,o7,e,hb7,hc⟩:=hr.addr (by omega);exact ⟨b7,o7,e,hb7,hc i _ (by simp [i64s,nats,hi])⟩)
 have HR:=hid hr;have HFR:=hid hfr;clear hr hfr;generalize hL:reachR p f (k+1) (p.ins f k).c=L at HR HML HRL HNO HTW hlen ⊢;clear hL;go_upto_region 4 with fail;go_loopw [9] (fun v wr=>∃ q:Nat,v=.int .i64 q∧q≤L.length∧(∀ i (h:i<L.length),i<q→¬ ((p.ins f L[i]).op=35∧(p.ins f L[i]).c=(p.ins f k).c))∧Below W2.heap.size W2 wr) (fun v _=>L.length - (intOf v).toNat)
 case atStart=>exact ⟨0,rfl,by omega,fun i h h2=>by omega,Below.refl _ _⟩
 case round=>
  obtain ⟨q,rfl,hq,hN,hbw⟩:=hrel;have hq0:=zi q;have hwq:=Wi q (by omega);have hTr:=hT2.next hbw;obtain ⟨x0,x1,x2⟩:=bx3 hTr.fst;have d5:=(hTr.below.cell (p:=⟨b,off+f * 6+5,none⟩) hb).trans HD5.out;have HNN:=hid hN;clear hN;by_cases hlq:q<L.length
  ·have hd1:=Dt (show (q:Int)<L.length by omega)
   have hd2:=Dt hlq;have hql:(q:Int)<(L.length:Int):=by omega
   obtain ⟨b7,o7,hA7,hb7,hc7⟩:=HRL.out q hlq;have cq:=(hbw.cell (p:=⟨b7,o7+q,none⟩) hb7).trans hc7;clear hc7;have hjm:=List.getElem_mem hlq;have hjl:=HML.out _ hjm
   have HNJ:Hid (¬ ((p.ins f L[q]).op=35∧(p.ins f L[q]).c=(p.ins f k).c)→∀ i (h:i<L.length),i<q+1→¬ ((p.ins f L[i]).op=35∧(p.ins f L[i]).c=(p.ins f k).c)):=hid (fun h1 i h h2=>by
    by_cases e:i=q
    ·subst e; exact h1
    ·exact HNN.out i h (by omega))
   generalize L[q]=j at cq hjm hjl HNJ;have hj0:=zi j;have hjl2:(j:Int)<(p.len f:Int):=by omega
   obtain ⟨q0,q1,q2,q3,q4⟩:=HI0.out wr hTr.below j hjl;have HJT:=hid (HTW.out j hjm);subst hA7;go_upto_region 6 with fail
   have HKA:Hid (∀ (W:World) (q':Obj),(W.cell? ⟨w.heap.size,0,none⟩=some (.slice (some ⟨b,off,none⟩) p.funs.length p.funC)∧W.cell? ⟨b,off+f * 6+5,none⟩=some (.slice (some ⟨b2,off2,none⟩) (p.len f) (p.fn f).codeC)∧W.cell? ⟨b7,o7+q,none⟩=some (.int .i64 j)∧W.cell? ⟨b2,off2+j * 5,none⟩=some (.int .i64 (p.ins f j).op)∧W.cell? ⟨b2,off2+j * 5+1,none⟩=some (.int .i64 (p.ins f j).a)∧W.cell? ⟨b2,off2+j * 5+2,none⟩=some (.int .i64 (p.ins f j).b)∧W.cell? ⟨b2,off2+j * 5+3,none⟩=some (.int .i64 (p.ins f j).c)∧W.cell? ⟨b2,off2+j * 5+4,none⟩=some (.slice (p.ins f j).argA (p.ins f j).args.length (p.ins f j).argC))→_):=hid (fun W q' h=>And.intro (((below_alloc W q').cell (block_lt_of_cell h.1)).trans h.1) (And.intro (((below_alloc W q').cell (block_lt_of_cell h.2.1)).trans h.2.1) (And.intro (((below_alloc W q').cell (block_lt_of_cell h.2.2.1)).trans h.2.2.1) (And.intro (((below_alloc W q').cell (block_lt_of_cell h.2.2.2.1)).trans h.2.2.2.1) (And.intro (((below_alloc W q').cell (block_lt_of_cell h.2.2.2.2.1)).trans h.2.2.2.2.1) (And.intro (((below_alloc W q').cell (block_lt_of_cell h.2.2.2.2.2.1)).trans h.2.2.2.2.2.1) (And.intro (((below_alloc W q').cell (block_lt_of_cell h.2.2.2.2.2.2.1)).trans h.2.2.2.2.2.2.1) (((below_alloc W q').cell (block_lt_of_cell h.2.2.2.2.2.2.2)).trans h.2.2.2.2.2.2.2))))))))
   refine wp_region_held_drew (S:=fun W=>W.cell? ⟨w.heap.size,0,none⟩=some (.slice (some ⟨b,off,none⟩) p.funs.length p.funC)∧W.cell? ⟨b,off+f * 6+5,none⟩=some (.slice (some ⟨b2,off2,none⟩) (p.len f) (p.fn f).codeC)∧W.cell? ⟨b7,o7+q,none⟩=some (.int .i64 j)∧W.cell? ⟨b2,off2+j * 5,none⟩=some (.int .i64 (p.ins f j).op)∧W.cell? ⟨b2,off2+j * 5+1,none⟩=some (.int .i64 (p.ins f j).a)∧W.cell? ⟨b2,off2+j * 5+2,none⟩=some (.int .i64 (p.ins f j).b)∧W.cell? ⟨b2,off2+j * 5+3,none⟩=some (.int .i64 (p.ins f j).c)∧W.cell? ⟨b2,off2+j * 5+4,none⟩=some (.slice (p.ins f j).argA (p.ins f j).args.length (p.ins f j).argC)) (by kernel_rfl) ⟨x0,d5,cq,q0,q1,q2,q3,q4⟩ (fun hHeld=>?_)
   have hbwd:Below W2.heap.size W2 wr.drew:=hbw.trans ((below_drews _ wr 1).mono hbw.size);have hTd:One w wr.drew [.slice (some ⟨b,off,none⟩) p.funs.length p.funC,.slice p.obA p.obs.length p.obC,.slice p.vrA p.vrs.length p.vrC]:=hTr.next (below_drews _ wr 1);clear hTr hbw x0 x1 x2 d5 q0 q1 q2 q3 q4 cq;generalize wr.drew=wd at hbwd hTd hHeld ⊢;have HWD:=hid hHeld;refine tkH 0 rfl ?_;try simp only [frS,Act.put]
   refine tkH 1 rfl ?_;try simp only [frS,Act.put]
   refine tkH 2 rfl ?_;try simp only [frS,Act.put]
   refine tkH 3 rfl ?_;try simp only [frS,Act.put]
   refine tkH 4 rfl ?_;try simp only [frS,Act.put]
   refine tkH 5 rfl ?_;try simp only [frS,Act.put]
   refine tkH 6 rfl ?_;try simp only [frS,Act.put]
   refine tkH 7 rfl ?_;try simp only [frS,Act.put]
   refine tkH 8 rfl ?_;try simp only [frS,Act.put]
   refine tkH 9 rfl ?_;try simp only [frS,Act.put]
   refine tkH 10 rfl ?_;try simp only [frS,Act.put]
   refine tkH 11 rfl ?_;try simp only [frS,Act.put]
   refine rdH 12 rfl fun K hK=>?_
   go_simp;refine hK.out _ _ ?_ (fun hHeld=>?_)
   ·exact HKA.out _ _ hHeld
   clear hK K;try simp only [frS,Act.put]
   refine rdH 13 rfl fun K hK=>?_
   go_simp;refine hK.out _ _ ?_ (fun hHeld=>?_)
   ·exact HKA.out _ _ HWD.out
   clear hK K;try simp only [frS,Act.put]
   refine wpAnyH_done (by kernel_rfl) ?_ _
   try dsimp only [Exit.then]
   clear hHeld HKA HWD;have hz:=bx_new wd #[.int .i64 (p.ins f j).op,.int .i64 (p.ins f j).a,.int .i64 (p.ins f j).b,.int .i64 (p.ins f j).c,.slice (p.ins f j).argA (p.ins f j).args.length (p.ins f j).argC] 63;have hba:=below_alloc wd (.cells #[.int .i64 (p.ins f j).op,.int .i64 (p.ins f j).a,.int .i64 (p.ins f j).b,.int .i64 (p.ins f j).c,.slice (p.ins f j).argA (p.ins f j).args.length (p.ins f j).argC] 63);have hbw2:=hbwd.trans (hba.mono hbwd.size);have hTa:=hTd.next hba;generalize World.alloc wd _=W3 at hz hbw2 hTa ⊢;clear hba hTd hbwd;generalize wd.heap.size=G at hz ⊢;obtain ⟨z0,z1,z2,z3,z4⟩:=bx5 hz;by_cases h35:(p.ins f j).op=35
   ·have g35:((p.ins f j).op == 35)=true:=by simp [h35]
    by_cases hcc:(p.ins f j).c=(p.ins f k).c
    ·have gcc:((p.ins f j).c == (p.ins f k).c)=true:=by simp [hcc]
     have HEQ:=hid (HJT.out ⟨h35,hcc⟩);obtain ⟨x0,x1,x2⟩:=bx3 hTa.fst;have HR1:=hid (HRE.out W3 hTa.below (-1));clear h35 hcc;go_wp2_with fail;refine HR1.out.mono ?_;rintro e W4 ⟨A4,c4,rfl,hr4,hf4,hb4⟩;go_wp2_with fail;go_ret;rw [HEQ.out];exact ⟨A4,c4,rfl,hr4,fun b o e=>by have:=hf4 b o e; have:=hTa.below.size; omega,hTa.below.trans (hb4.mono hTa.below.size)⟩
    ·have gcc:((p.ins f j).c == (p.ins f k).c)=false:=by simp [hcc]
     have HN2:=hid (HNJ.out (fun e=>hcc e.2));clear h35 hcc;go_wp2_with fail;go_round
     case rel=>exact ⟨q+1,rfl,by omega,HN2.out,hbw2⟩
     case measure=>exact ms (by omega)
   ·have g35:((p.ins f j).op == 35)=false:=by simp [h35]
    have HN2:=hid (HNJ.out (fun e=>h35 e.1));clear h35;go_wp2_with fail;go_round
    case rel=>exact ⟨q+1,rfl,by omega,HN2.out,hbw2⟩
    case measure=>exact ms (by omega)
  ·have hd1:=Df (show ¬ (q:Int)<L.length by omega)
   have hd2:=Df hlq
   have HEQ:=hid (HNO.out (fun j hj=>by
    obtain ⟨i,hi,rfl⟩:=List.mem_iff_getElem.1 hj;exact HNN.out i hi (by omega)))
   go_wp2_with fail;go_ret;rw [HEQ.out];exact ⟨A,c,rfl,Rd.more (Rd.below' HR.out hbw (Nat.le_refl _)) hbw.size,fun b o e=>by have:=HFR.out b o e; omega,hTr.below⟩
end
section
open Go.RowKit Go.Shelf
structure WrS (p:Prg) (s:S) (f:Nat) (seen:List Nat) (out:BS):Prop where
 mem:f∈seen
 snd:∀ g∈seen,CallsTo p s.get f g∧g<p.funs.length
 out:∀ X,WithinC p s.get f X→Sub out X
theorem WrS.grow {p:Prg} {s:S} {f:Nat} {seen:List Nat} {out:BS} (h:WrS p s f seen out) {g i:Nat} (hg:g∈seen) (hi:i<p.len g) (hk:(s.get (.at_ g i)).1=true):WrS p s f seen (out ||| (s.get (.at_ g i)).2):=
 ⟨h.mem,h.snd,fun X hX=>sub_or.2 ⟨h.out X hX,hX g i (h.snd g hg).1 hi hk⟩⟩
theorem WrS.push {p:Prg} {s:S} {f:Nat} {seen:List Nat} {out:BS} (h:WrS p s f seen out) {g i:Nat} (hg:g∈seen) (hi:i<p.len g) (hk:(s.get (.at_ g i)).1=true) (ho:(p.ins g i).op=15) (hb:(p.ins g i).b.toNat<p.funs.length):WrS p s f ((p.ins g i).b.toNat::seen) out:=
 ⟨List.mem_cons_of_mem _ h.mem,fun x hx=>by
  rcases List.mem_cons.1 hx with rfl | hx
  ·exact ⟨(h.snd g hg).1.step hi hk ho,hb⟩
  ·exact h.snd x hx,h.out⟩
theorem WrS.done {p:Prg} (hW:Wf p) {s:S} {f:Nat} (hf:f<p.funs.length) {seen:List Nat} {out:BS} (h:WrS p s f seen out) (hd:∀ g,g<p.funs.length→g∈seen→DoneAt p s g (p.len g) (seen,out)):out=s.within p f:=by
 refine (h.out _ ((within_ok hW s hf _).1 (Sub.refl _))).antisymm ((within_ok hW s hf out).2 fun g k hc h1 h2=>?_)
 have hg:g∈seen:=by
  clear h1 h2 k
  induction hc with
  | refl=>exact h.mem
  | step _ h1 h2 h3 ih=>exact (hd _ (h.snd _ ih).2 ih _ h1 h1 h2).2 h3
 exact (hd g (h.snd g hg).2 hg k h1 h1 h2).1
structure WrI (p:Prg) (L:RLay) (s:S) (w:World) (seen:List Nat) (W:World):Prop where
 mem:RMem p L W s
 row:W.rowIs w.heap.size 4 p.funs.length (seenF seen)
 below:Below w.heap.size w W
 size:w.heap.size+1≤W.heap.size
theorem WrI.next {p:Prg} {L:RLay} {s:S} {w W W':World} {seen:List Nat} (h:WrI p L s w seen W) (hb:Below W.heap.size W W'):WrI p L s w seen W':=by
 have:=h.size;have:=hb.size;exact ⟨h.mem.below hb,h.row.of_block (hb.block _ (by omega)),h.below.trans (hb.mono h.below.size),by omega⟩
theorem WrI.mark {p:Prg} {L:RLay} {s:S} {w W:World} {seen:List Nat} (h:WrI p L s w seen W) (hL:L.hi≤w.heap.size) (f:Nat):WrI p L s w (f::seen) (W.setCell ⟨w.heap.size,f,none⟩ (.bool true)):=by
 refine ⟨h.mem.below' ((Below.refl _ _).setCell (p:=⟨w.heap.size,f,none⟩) hL _),(h.row.set f (.bool true)).congr (fun i _=>?_),h.below.setCell (p:=⟨w.heap.size,f,none⟩) (Nat.le_refl _) _,by simpa using h.size⟩;by_cases e:i=f
 ·subst e; simp [seenF]
 ·simp [seenF,e]
theorem rwithin_any (p:Prg) (hWf:Wf p) (L:RLay) (s:S) (f:Nat) (hf:f<p.funs.length) (w:World) (h:RMem p L w s) :
  Calls Tryz.prog 91 #[.pointer (some ⟨L.A,0,none⟩),.int .i64 f] w (Ret (.int .i64 ((s.within p f).toNat:Int)) w):=by
 have hfn:=hWf.funs;have hLh:=h.hi;have HW:=hid hWf;have c0:=h.c0;have hmk:=fun W=>run_make_row' (P:=Tryz.prog) 82 4 (.bool false) 1 Tryz.underlying82 (by kernel_rfl) rfl .i64 .i64 p.funs.length (by omega) (by omega) W
 have f0:=zi f;have f1:(f:Int)<(p.funs.length:Int):=by omega
 have hl0:=zi (p.funs.length);go_enter Tryz.func91,Tryz.ntmps91;go_upto_region 2 with fail;have hba:=below_alloc w (.cells (madeCells #[.bool false] p.funs.length) 4);have hI:WrI p L s w [] (w.alloc (.cells (madeCells #[.bool false] p.funs.length) 4)):=⟨h.below hba,(World.rowIs_made w (.bool false) p.funs.length 4).congr (fun _ _=>rfl),hba,by simp⟩
 generalize World.alloc _ _=W1 at hI ⊢;clear hmk c0 hba h;have fz:=hI.row.frozen f;have cl:=hI.row.cell hf;go_upto_region 3 with fail;have hI:=hI.mark hLh.2 f
 have hS:WrS p s f [f] 0:=⟨by simp,fun g hg=>by
  have:g=f:=by simpa using hg
  subst this; exact ⟨.refl,hf⟩,fun X _=>Sub.zero X⟩
 generalize World.setCell W1 _ _=W2 at hI ⊢;clear fz cl;go_upto_region 5 with fail;go_loopg [6,7] (2 * unseen p.funs.length [f]+1) (fun n o v wr=>∃ (seen:List Nat) (out:BS) (ag:Bool),o=.int .i64 (out.toNat:Int)∧v=.bool ag∧n=2 * unseen p.funs.length seen+(if ag then 1 else 0)∧WrI p L s w seen wr∧WrS p s f seen out∧(ag=false→∀ g,g<p.funs.length→g∈seen→DoneAt p s g (p.len g) (seen,out)))
 case atStart=>exact ⟨[f],0,true,rfl,rfl,rfl,hI,hS,fun e=>by cases e⟩
 case round=>
  clear hI hS;obtain ⟨seen0,out0,ag,rfl,rfl,hgk,hI,hS,hD⟩:=hrel
  cases ag with
  | false=>
   have HE:=hid (hS.done HW.out hf (hD rfl));clear hD hS hgk;go_wp2_with fail;go_ret;exact ⟨by rw [← HE.out]; rfl,hI.below⟩
  | true=>
   have hgk:gk=2 * unseen p.funs.length seen0+1:=hgk;have HGK:=hid hgk;clear hgk hD;go_upto_region 8 with fail;go_loopw [6,7,8] (fun o v i wr=>∃ (sn:List Nat) (out:BS) (ag:Bool) (g:Nat),o=.int .i64 (out.toNat:Int)∧v=.bool ag∧i=.int .i64 g∧g≤p.funs.length∧WrI p L s w sn wr∧WrS p s f sn out∧(ag=false→sn=seen0∧∀ h,h<g→h∈seen0→DoneAt p s h (p.len h) (seen0,out))∧(ag=true→unseen p.funs.length sn<unseen p.funs.length seen0)) (fun _ _ v _=>p.funs.length - (intOf v).toNat)
   case atStart=>exact ⟨seen0,out0,false,0,rfl,rfl,rfl,by omega,hI,hS,fun _=>⟨rfl,fun j hj=>by omega⟩,fun e=>by cases e⟩
   case round=>
    clear hI hS;obtain ⟨sn,out,ag,g,rfl,rfl,rfl,hg,hI,hS,hF,hT⟩:=hrel;have hg0:=zi g;have hwr1:=Wi g (by omega);have HFT:=hid (And.intro hF hT);clear hF hT;by_cases hlt:g<p.funs.length
    ·have hd1:=Dt (show (g:Int)<p.funs.length by omega)
     have hd2:=Dt hlt;have hgl:(g:Int)<(p.funs.length:Int):=by omega
     have hlen:=HW.out.len g hlt;go_upto_region 11 with fail;go_loopw [6,7,9] (fun o v i wr=>∃ (s3:List Nat) (o3:BS) (a3:Bool) (j:Nat),o=.int .i64 (o3.toNat:Int)∧v=.bool a3∧i=.int .i64 j∧j≤p.len g∧(g∈sn→g∈s3)∧(g∉sn→s3=sn)∧WrI p L s w s3 wr∧WrS p s f s3 o3∧Sub out o3∧(a3=false→ag=false∧s3=sn∧(g∈sn→DoneAt p s g j (sn,o3)))∧(a3=true→ag=true∧s3=sn∨unseen p.funs.length s3<unseen p.funs.length seen0)) (fun _ _ v _=>p.len g - (intOf v).toNat)
     case atStart=>exact ⟨sn,out,ag,0,rfl,rfl,rfl,by omega,id,fun _=>rfl,hI,hS,Sub.refl _,fun e=>⟨e,rfl,fun _ k hk=>by omega⟩,fun e=>.inl ⟨e,rfl⟩⟩
     case round=>
      clear hI hS;obtain ⟨s3,o3,a3,j,rfl,rfl,rfl,hj,hgm,hgn,hI,hS,hO,hF,hT⟩:=hrel;have hj0:=zi j;have hwj:=Wi j (by omega);have HF3:=hid (And.intro hF hT);have HGM:=hid (And.intro hgm hgn);clear hF hT hgm hgn;have HO:=hid hO;clear hO;have cg:=hI.row.cell hlt;by_cases hm:g∈s3
      ·have hgs:g∈sn:=Classical.byContradiction fun e=>e (by rw [← HGM.out.2 e]; exact hm)
       have hcs:seenF s3 g=.bool true:=by simp [seenF,hm]
       rw [hcs] at cg;clear hcs;have c3:=hI.mem.c3;have ob:=hI.mem.outB g hlt;by_cases hlj:j<p.len g
       ·have hd3:=Dt (show (j:Int)<p.len g by omega)
        have hd4:=Dt hlj;have hjl:(j:Int)<(p.len g:Int):=by omega
        have cs:wr.cell? ⟨L.bb g,j,none⟩=some (.int .i64 (rv (s.get (.at_ g j)))):=(hI.mem.slot (.at_ g j) ⟨hlt,hlj⟩).1
        cases hkn:(s.get (.at_ g j)).1 with
        | false=>
         have hrv:rv (s.get (.at_ g j)) = -1:=by unfold rv; rw [hkn]; rfl
         rw [hrv] at cs;have HK:=hid hkn;clear hrv hkn;go_wp2_with fail;go_round
         case rel=>
          refine ⟨s3,o3,a3,j+1,rfl,rfl,rfl,by omega,HGM.out.1,HGM.out.2,hI,hS,HO.out,fun e=>⟨(HF3.out.1 e).1,(HF3.out.1 e).2.1,fun hs k hk hk2 hk3=>?_⟩,HF3.out.2⟩;by_cases ek:k=j
          ·subst ek; rw [HK.out] at hk3; cases hk3
          ·exact (HF3.out.1 e).2.2 hs k (by omega) hk2 hk3
         case measure=>exact ms (by omega)
        | true=>
         have hrv:rv (s.get (.at_ g j))=((s.get (.at_ g j)).2.toNat:Int):=by unfold rv; rw [hkn]; rfl
         rw [hrv] at cs;have hx0:=Df (show ¬ (((s.get (.at_ g j)).2.toNat:Int)<0) by omega);have hS2:=hS.grow hm hlj hkn;have HS2:=hid hS2;have HPU:=hid (fun o (h:WrS p s f s3 o) ho hb=>h.push hm hlj hkn ho hb);have hor:=or_iv o3 (s.get (.at_ g j)).2;have HO2:=hid (show Sub out (o3 ||| (s.get (.at_ g j)).2) from HO.out.left _);have HSX:Hid (Sub (s.get (.at_ g j)).2 (o3 ||| (s.get (.at_ g j)).2)∧Sub o3 (o3 ||| (s.get (.at_ g j)).2)):=hid ⟨(Sub.refl _).right _,(Sub.refl _).left _⟩
         have HDN:Hid (((p.ins g j).op=15→(p.ins g j).b.toNat∈sn)→(a3=false→ag=false∧s3=sn∧(g∈sn→DoneAt p s g (j+1) (sn,o3 ||| (s.get (.at_ g j)).2)))):=hid (fun h1 e=>⟨(HF3.out.1 e).1,(HF3.out.1 e).2.1,fun hs k hk hk2 hk3=>by
          by_cases ek:k=j
          ·subst ek; exact ⟨HSX.out.1,h1⟩
          ·exact (((HF3.out.1 e).2.2 hs).more (b:=(sn,o3 ||| (s.get (.at_ g j)).2)) (fun _ q=>q) HSX.out.2) k (by omega) hk2 hk3⟩)
         obtain ⟨b,off,b2,off2,hA,hb,hb2,-,d5,q0,q1,q2,q3,q4⟩:=hI.mem.prog.at_ hlt hlj;have c0:=hI.mem.c0;rw [hA] at c0;have HIN:=hid (HW.out.ins g j hlt hlj);generalize p.ins g j=i at q0 q1 q2 q3 q4 HIN HDN HPU;obtain ⟨op,a,bx,cc,args,argA,argC⟩:=i;dsimp only at q0 q1 q2 q3 q4 HDN HPU;generalize args.length=N at q4;generalize (s.get (.at_ g j)).2=at2 at cs hx0 HS2 HO2 HDN hor;clear hS hkn hrv HSX hS2;go_upto_region 16 with fail;clear c0 c3 d5 q0 q1 q2 q3 q4 cs ob cg;have hz:=bx_new wr #[.int .i64 op,.int .i64 a,.int .i64 bx,.int .i64 cc,.slice argA N argC] 63;have hba:=below_alloc wr (.cells #[.int .i64 op,.int .i64 a,.int .i64 bx,.int .i64 cc,.slice argA N argC] 63);have hI2:=hI.next hba;have hzz:=hI.size;generalize World.alloc wr _=W5 at hz hI2 ⊢;clear hba hI;generalize wr.heap.size=G at hz hzz ⊢
         obtain ⟨z0,z1,z2,z3,z4⟩:=bx5 hz;by_cases h15:op=15
         ·obtain ⟨n0,n1⟩:=HIN.out.call (.inl h15)
          dsimp only at n0 n1;obtain ⟨bn,rfl⟩:∃ bn:Nat,bx=(bn:Int):=⟨bx.toNat,by omega⟩
          have hbn:bn<p.funs.length:=by omega
          have g15:(op == 15)=true:=by simp [h15]
          have cb:=hI2.row.cell hbn;by_cases hbm:bn∈s3
          ·have hcs:seenF s3 bn=.bool true:=by simp [seenF,hbm]
           rw [hcs] at cb;have HDX:Hid (a3=false→ag=false∧s3=sn∧(g∈sn→DoneAt p s g (j+1) (sn,o3 ||| at2))):=hid (fun e=>HDN.out (fun _=>by rw [← (HF3.out.1 e).2.1]; exact hbm) e);clear hcs h15 n0 n1 hbm;go_wp2_with fail;go_round
           case rel=>exact ⟨s3,o3 ||| at2,a3,j+1,by rw [BitVec.toNat_or],rfl,rfl,by omega,HGM.out.1,HGM.out.2,hI2,HS2.out,HO2.out,HDX.out,HF3.out.2⟩
           case measure=>exact ms (by omega)
          ·have hcs:seenF s3 bn=.bool false:=by simp [seenF,hbm]
           rw [hcs] at cb;have fb:=hI2.row.frozen bn;have hI3:=hI2.mark hLh.2 bn;have HS3:=hid (HPU.out _ HS2.out h15 hbn);have HU:=hid (unseen_lt hbn hbm);clear hcs h15 hbm hI2;go_wp2_with fail;go_round
           case rel=>
            refine ⟨bn::s3,o3 ||| at2,true,j+1,by rw [BitVec.toNat_or],rfl,rfl,by omega,fun q=>List.mem_cons_of_mem _ (HGM.out.1 q),fun q=>absurd hgs q,hI3,HS3.out,HO2.out,(nomatch ·),fun _=>.inr ?_⟩;have hu:=HU.out
            cases a3 with
            | false=>have h1:=(HF3.out.1 rfl); rw [h1.2.1,(HFT.out.1 h1.1).1] at hu; rw [h1.2.1,(HFT.out.1 h1.1).1]; exact hu
            | true=>
             rcases HF3.out.2 rfl with ⟨h1,h2⟩ | h1
             ·have:=HFT.out.2 h1; rw [← h2] at this; omega
             ·omega
           case measure=>exact ms (by omega)
         ·have g15:(op == 15)=false:=by simp [h15]
          have HDX:=hid (HDN.out (fun e=>absurd e h15));clear h15;go_wp2_with fail;go_round
          case rel=>exact ⟨s3,o3 ||| at2,a3,j+1,by rw [BitVec.toNat_or],rfl,rfl,by omega,HGM.out.1,HGM.out.2,hI2,HS2.out,HO2.out,HDX.out,HF3.out.2⟩
          case measure=>exact ms (by omega)
       ·have hd3:=Df (show ¬ (j:Int)<p.len g by omega)
        have hd4:=Df hlj;have hje:j=p.len g:=by omega
        have HJE:=hid hje;clear hje;go_wp2_with fail;have hje:=HJE.out;go_round
        case rel=>
         refine ⟨s3,o3,a3,g+1,rfl,rfl,rfl,by omega,hI,hS,fun e=>?_,fun e=>?_⟩
         ·obtain ⟨h1,h2,h3⟩:=HF3.out.1 e
          obtain ⟨h4,h5⟩:=HFT.out.1 h1;refine ⟨by rw [h2,h4],fun h hh hm9=>?_⟩;by_cases eh:h=g
          ·subst eh; have h6:=h3 (by rw [h4]; exact hm9); rw [hje,h4] at h6; exact h6
          ·exact (h5 h (by omega) hm9).more (fun _ q=>q) HO.out
         ·rcases HF3.out.2 e with ⟨h1,h2⟩ | h1
          ·rw [h2]; exact HFT.out.2 h1
          ·exact h1
        case measure=>exact ms (by omega)
      ·have hgs:g∉sn:=fun e=>hm (HGM.out.1 e)
       have hcs:seenF s3 g=.bool false:=by simp [seenF,hm]
       rw [hcs] at cg;clear hcs;go_wp2_with fail;go_round
       case rel=>
        refine ⟨s3,o3,a3,g+1,rfl,rfl,rfl,by omega,hI,hS,fun e=>?_,fun e=>?_⟩
        ·obtain ⟨h1,h2,h3⟩:=HF3.out.1 e
         obtain ⟨h4,h5⟩:=HFT.out.1 h1;refine ⟨by rw [h2,h4],fun h hh hm9=>?_⟩;by_cases eh:h=g
         ·subst eh; rw [← h4] at hm9; exact absurd hm9 hgs
         ·exact (h5 h (by omega) hm9).more (fun _ q=>q) HO.out
        ·rcases HF3.out.2 e with ⟨h1,h2⟩ | h1
         ·rw [h2]; exact HFT.out.2 h1
         ·exact h1
       case measure=>exact ms (by omega)
    ·have hd1:=Df (show ¬ (g:Int)<p.funs.length by omega)
     have hd2:=Df hlt;have hge:g=p.funs.length:=by omega
     go_wp2_with fail;go_roundg (2 * unseen p.funs.length sn+(if ag then 1 else 0))
     case measure=>
      rw [HGK.out]
      cases ag with
      | false=>rw [(HFT.out.1 rfl).1]; simp
      | true=>have:=HFT.out.2 rfl; simp; omega
     case rel=>exact ⟨sn,out,ag,rfl,rfl,rfl,hI,hS,fun e=>by rw [(HFT.out.1 e).1,← hge]; exact (HFT.out.1 e).2⟩
end
end Go.Proofs.YtkpjdanfpolimaaGreat
