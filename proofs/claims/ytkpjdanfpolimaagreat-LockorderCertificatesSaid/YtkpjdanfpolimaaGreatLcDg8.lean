/- digraph's Components, walked: the classes. Conditions: the edges are in range and strictly ascending. -/
import Derived.Test.YtkpjdanfpolimaaGreatLcRaZ
import Derived.Test.YtkpjdanfpolimaaGreatLcDg5
set_option maxRecDepth 100000
set_option maxHeartbeats 6400000
namespace Go.Proofs.YtkpjdanfpolimaaGreat
open Go.RowKit Go.Shelf
theorem listInfo:(Tryz.prog.info? 27).map (fun i=>(i.zero,i.size,i.bytes))=some (some (.slice none 0 0),1,24):=by kernel_rfl
def OwnLL (W:World) (base:Nat) (v:Value) (ls:List (List Nat)):Prop:=∃ vs:List Value,W.ownsRow base 27 1 v ls.length vs ∧
 ∀ (i:Nat) (c:List Nat),ls[i]? = some c→∃ g cap,vs[i]? = some (Value.slice (some ⟨g,0,none⟩) c.length cap)∧base≤g∧g<W.heap.size∧v.ownBlock≠some g∧∀ k (hk:k<c.length),W.cell? ⟨g,k,none⟩=some (.int .i64 c[k])
theorem OwnLL.nil (W:World) (base:Nat):OwnLL W base (.slice none 0 0) []:=⟨[],World.ownsRow_nil _ _ _ _,fun i c h=>by simp at h⟩
theorem own_blocks {W W':World} {B e size n:Nat} {v:Value} {xs:List Value} (h:W.ownsRow B e size v n xs) (hk:∀ k,B≤k→k<W.heap.size→W'.heap[k]? = W.heap[k]?):W'.ownsRow B e size v n xs:=by
 refine ⟨h.1,?_⟩;rcases h.2 with h1 | ⟨g,cap,cur,rfl,hb,hg,rest⟩
 ·exact .inl h1
 ·exact .inr ⟨g,cap,cur,rfl,hb,(hk g hb (Array.getElem?_eq_some_iff.1 hg).1).trans hg,rest⟩
theorem own_set_far {W:World} {B e size n:Nat} {v:Value} {xs:List Value} (h:W.ownsRow B e size v n xs) {b:Nat} (hB:∀ g,v.ownBlock=some g→g≠b) (x:Nat) (u:Value):(W.setCell ⟨b,x,none⟩ u).ownsRow B e size v n xs:=by
 refine ⟨h.1,?_⟩;rcases h.2 with h1 | ⟨g,cap,cur,rfl,hb,hg,rest⟩
 ·exact .inl h1
 ·exact .inr ⟨g,cap,cur,rfl,hb,(heap_setCell_other _ _ _ _ (hB g rfl)).trans hg,rest⟩
theorem OwnLL.keep {W W':World} {base:Nat} {v:Value} {ls:List (List Nat)} (h:OwnLL W base v ls) (hk:∀ k,base≤k→k<W.heap.size→W'.heap[k]? = W.heap[k]?) (hz:W.heap.size≤W'.heap.size):OwnLL W' base v ls:=by
 obtain ⟨vs,h1,h2⟩:=h;refine ⟨vs,own_blocks h1 hk,fun i c hc=>?_⟩;obtain ⟨g,cap,k1,k2,k3,k4,k5⟩:=h2 i c hc;exact ⟨g,cap,k1,k2,by omega,k4,fun k hk'=>(World.cell?_of_block (hk g k2 k3)).trans (k5 k hk')⟩
theorem OwnLL.below {W W':World} {base:Nat} {v:Value} {ls:List (List Nat)} (h:OwnLL W base v ls) (hb:Below W.heap.size W W'):OwnLL W' base v ls:=h.keep (fun k _ hk=>hb.block k hk) hb.size
theorem OwnLL.base_ {W:World} {base B:Nat} {v:Value} {ls:List (List Nat)} (h:OwnLL W base v ls) (hB:B≤base):OwnLL W B v ls:=by
 obtain ⟨vs,h1,h2⟩:=h;refine ⟨vs,own_base h1 hB,fun i c hc=>?_⟩;obtain ⟨g,cap,k1,k2,k3⟩:=h2 i c hc;exact ⟨g,cap,k1,by omega,k3⟩
theorem OwnLL.push {W1 W3:World} {base:Nat} {v v':Value} {ls:List (List Nat)} {vs:List Value} {c:List Nat} {g cap:Nat} (h1:W1.ownsRow base 27 1 v ls.length vs)
  (h2:∀ (i:Nat) (c:List Nat),ls[i]? = some c→∃ g cap,vs[i]? = some (Value.slice (some ⟨g,0,none⟩) c.length cap)∧base≤g∧g<W1.heap.size∧v.ownBlock≠some g∧∀ k (hk:k<c.length),W1.cell? ⟨g,k,none⟩=some (.int .i64 c[k]))
  (ho:W3.ownsRow base 27 1 v' (ls.length+1) (vs++[Value.slice (some ⟨g,0,none⟩) c.length cap])) (hg:W1.grownBy W3 v.ownBlock) (hv:v'.ownBlock=v.ownBlock∨v'.ownBlock=some W1.heap.size)
  (hb:base≤g) (hl:g<W1.heap.size) (hn:v.ownBlock≠some g) (hc:∀ k (hk:k<c.length),W1.cell? ⟨g,k,none⟩=some (.int .i64 c[k])):OwnLL W3 base v' (ls++[c]):=by
 have hnew:∀ g,g<W1.heap.size→v.ownBlock≠some g→v'.ownBlock≠some g:=fun g h3 h4 e=>by
  rcases hv with hv | hv
  ·exact h4 (hv ▸ e)
  ·rw [hv] at e; injection e with e; omega
 have hvl:vs.length=ls.length:=by have:=h1.1; omega
 refine ⟨_,by rw [List.length_append]; exact ho,fun i c' hc'=>?_⟩;by_cases e:i<ls.length
 ·rw [List.getElem?_append_left e] at hc'
  obtain ⟨g',cap',k1,k2,k3,k4,k5⟩:=h2 i c' hc';exact ⟨g',cap',by rw [List.getElem?_append_left (by omega)]; exact k1,k2,Nat.lt_of_lt_of_le k3 hg.size,hnew _ k3 k4,fun k hk=>hg.cell (k5 k hk) (fun z=>k4 z.symm)⟩
 ·rw [List.getElem?_append_right (by omega)] at hc'
  have hi:i - ls.length=0:=by
   have:=(List.getElem?_eq_some_iff.1 hc').1;simp at this; omega
  rw [hi] at hc';have:c=c':=by simpa using hc'
  subst this;exact ⟨g,cap,by rw [List.getElem?_append_right (by omega),show i - vs.length=0 by omega]; rfl,hb,Nat.lt_of_lt_of_le hl hg.size,hnew _ hl hn,fun k hk=>hg.cell (hc k hk) (fun z=>hn z.symm)⟩
open Classical in
noncomputable def clsTo (l:List (Nat × Nat)) (u v:Nat):List Nat:=(List.range v).filter (fun x=>decide (Way l u x) && decide (Way l x u))
theorem clsTo_all (n:Nat) (l:List (Nat × Nat)) (u:Nat):classOf n l u=clsTo l u n:=rfl
theorem clsTo_yes {l:List (Nat × Nat)} {u v:Nat} (h:Way l u v∧Way l v u):clsTo l u (v+1)=clsTo l u v++[v]:=by
 unfold clsTo; rw [List.range_succ,List.filter_append]; simp [h.1,h.2]
theorem clsTo_no {l:List (Nat × Nat)} {u v:Nat} (h:¬ (Way l u v∧Way l v u)):clsTo l u (v+1)=clsTo l u v:=by
 unfold clsTo; rw [List.range_succ,List.filter_append];simpa using fun a b=>h ⟨a,b⟩
theorem clsTo_len (l:List (Nat × Nat)) (u v:Nat):(clsTo l u v).length≤v:=Nat.le_trans (List.length_filter_le _ _) (by rw [List.length_range]; exact Nat.le_refl _)
theorem comps_len (n:Nat) (l:List (Nat × Nat)) (j:Nat):(compsTo n l j).length≤j:=by
 unfold compsTo; rw [List.length_map]; exact Nat.le_trans (List.length_filter_le _ _) (by rw [List.length_range]; exact Nat.le_refl _)
def FromTo (W:World) (F B n j:Nat) (l:List (Nat × Nat)):Prop:=F<B∧∀ u,u<j→∃ (b:Nat) (t:Nat→Bool),W.cell? ⟨F,u,none⟩=some (.slice (some ⟨b,0,none⟩) n n)∧F<b∧b<B∧W.rowIs b 4 n (fun v=>.bool (t v))∧∀ v,t v=true↔Way l u v
theorem FromTo.keep {W W':World} {F B n j:Nat} {l:List (Nat × Nat)} (h:FromTo W F B n j l) (hk:∀ k,k<B→W'.heap[k]? = W.heap[k]?):FromTo W' F B n j l:=
 ⟨h.1,fun u hu=>by
  obtain ⟨b,t,k1,k2,k3,k4,k5⟩:=h.2 u hu;exact ⟨b,t,(World.cell?_of_block (w:=W) (hk F h.1)).trans k1,k2,k3,k4.of_block (hk b k3),k5⟩⟩
theorem FromTo.more {W:World} {F B C n j:Nat} {l:List (Nat × Nat)} (h:FromTo W F B n j l) (hC:B≤C):FromTo W F C n j l:=
 ⟨Nat.lt_of_lt_of_le h.1 hC,fun u hu=>by
  obtain ⟨b,t,k1,k2,k3,k4⟩:=h.2 u hu;exact ⟨b,t,k1,k2,by omega,k4⟩⟩
theorem comps_any (n:Nat) (A:Option Addr) (c:Nat) (l:List (Nat × Nat)) (hn:n≤200) (hl:l.length≤2000) (hr:EdR n l) (hs:Strict l) (w:World) (h:Eds w w.heap.size A l) :
  Calls Tryz.prog 37 #[.int .i64 n,.slice A l.length c] w fun e W=>∃ v,e=.returned v∧OwnLL W w.heap.size v (compsTo n l n)∧Below w.heap.size w W:=by
 obtain ⟨i0,hi,hz⟩:=Option.map_eq_some_iff.1 intInfo;have hz0:i0.zero=some (.int .i64 0):=congrArg (fun t=>t.1) hz;have hz1:i0.size=1:=congrArg (fun t=>t.2.1) hz;have hz2:i0.bytes=8:=congrArg (fun t=>t.2.2) hz;clear hz;obtain ⟨i1,hi1,hz⟩:=Option.map_eq_some_iff.1 listInfo;have hy0:i1.zero=some (.slice none 0 0):=congrArg (fun t=>t.1) hz;have hy1:i1.size=1:=congrArg (fun t=>t.2.1) hz;have hy2:i1.bytes=24:=congrArg (fun t=>t.2.2) hz;clear hz;have HBU:=hid (build_ok n A c l hn hl hr hs w h);have hmk1:=fun W=>run_make_row' (P:=Tryz.prog) 85 82 (.slice none 0 0) 24 Tryz.underlying85 (by kernel_rfl) rfl .i64 .i64 n (by omega) (by omega) W
 have hmk2:=fun W=>run_make_row' (P:=Tryz.prog) 82 4 (.bool false) 1 Tryz.underlying82 (by kernel_rfl) rfl .i64 .i64 n (by omega) (by omega) W
 go_enter Tryz.func37,Tryz.ntmps37;go_wp2_with fail;refine HBU.out.mono ?_;rintro e w1 ⟨N,rfl,hN,hNl,hb1⟩;unfold netV;go_upto_region 5 with fail;have hba:=below_alloc w1 (.cells #[.int .i64 n,.slice (some ⟨N,0,none⟩) n n] 98);have hga:=bx_new w1 #[.int .i64 n,.slice (some ⟨N,0,none⟩) n n] 98;have hza:(w1.alloc (.cells #[.int .i64 n,.slice (some ⟨N,0,none⟩) n n] 98)).heap.size=w1.heap.size+1:=by simp
 have hrb:=World.rowIs_made (w1.alloc (.cells #[.int .i64 n,.slice (some ⟨N,0,none⟩) n n] 98)) (.slice none 0 0) n 82;have hbb:=below_alloc (w1.alloc (.cells #[.int .i64 n,.slice (some ⟨N,0,none⟩) n n] 98)) (.cells (madeCells #[.slice none 0 0] n) 82);have hzb:((w1.alloc (.cells #[.int .i64 n,.slice (some ⟨N,0,none⟩) n n] 98)).alloc (.cells (madeCells #[.slice none 0 0] n) 82)).heap.size=w1.heap.size+2:=by simp
 rw [hza] at hrb;have hN2:=(hN.below' hba (Nat.le_refl _)).below' hbb (by omega);have hg2:=hga.below hbb (by omega);have hbw:=(hb1.trans (hba.mono hb1.size)).trans (hbb.mono (by have:=hb1.size; omega));have hMw:=hb1.size;clear hN hba hga hza hbb hb1 HBU hmk1 hNl;generalize World.alloc _ _=wa at hN2 hg2 hbw hrb hzb ⊢;generalize w1.heap.size=M at hN2 hg2 hrb hzb hMw ⊢;have hF0:FromTo wa (M+1) wa.heap.size n 0 l:=⟨by omega,fun u hu=>absurd hu (by omega)⟩
 go_upto_region 6 with fail;go_loopw [25] (fun i wr=>∃ (j:Nat) (f:Nat→Value),i=.int .i64 (j:Nat)∧j≤n∧Net wr M N n l∧Bx wr M [.int .i64 n,.slice (some ⟨N,0,none⟩) n n]∧wr.rowIs (M+1) 82 n f∧FromTo wr (M+1) wr.heap.size n j l∧M+2≤wr.heap.size∧Below w.heap.size w wr) (fun i _=>n - (intOf i).toNat)
 case atStart=>exact ⟨0,_,rfl,by omega,hN2,hg2,hrb,hF0,by omega,hbw⟩
 case round=>
  clear hN2 hg2 hbw hrb hzb hF0;obtain ⟨j,f,rfl,hj,hN,hg,hF,hT,hz,hb⟩:=hrel;have hj0:=zi j;have hwr:=Wi j (by omega);by_cases hlt:j<n
  ·have hd1:=Dt (show (j:Int)<n by omega)
   have hd2:=Dt hlt;have hjl:(j:Int)<(n:Int):=by omega
   have g0:=hg 0 _ rfl;have g1:=hg 1 _ rfl;have hba:=below_alloc wr (.cells #[.int .i64 j] 3);have hzA:(wr.alloc (.cells #[.int .i64 j] 3)).heap.size=wr.heap.size+1:=by simp
   have HRE:=hid (dgReach_any n N j l hn hl hr hlt wr.heap.size 1 (wr.alloc (.cells #[.int .i64 j] 3)) ((hN.below' hba (by omega)).more (by omega)) (by simp) (bx_new wr #[.int .i64 j] 3 0 _ rfl));unfold netV at HRE;go_wp2_with fail;refine HRE.out.mono ?_;rintro e W5 ⟨b,t,rfl,hbl,hrow,ht,hbw⟩;have hbW:=hba.trans (hbw.mono (by omega));have c0:=(hF.of_block (hbW.block _ (by omega))).cell hlt;have f0:=(hF.of_block (hbW.block (M+1) (by omega))).frozen j;have hbs:Below (M+1) W5 (W5.setCell ⟨M+1,j,none⟩ (.slice (some ⟨b,0,none⟩) n n)):=(Below.refl _ _).setCell (p:=⟨M+1,j,none⟩) (Nat.le_refl _) _;have hN6:=(hN.below' hbW (by omega)).below' hbs (by omega);have hg6:=(hg.below hbW (by omega)).below hbs (by omega);have hF6:=(hF.of_block (hbW.block _ (by omega))).set j (.slice (some ⟨b,0,none⟩) n n)
   have hz6:wr.heap.size+1≤W5.heap.size:=by have:=hbw.size; omega
   have hT6:FromTo (W5.setCell ⟨M+1,j,none⟩ (.slice (some ⟨b,0,none⟩) n n)) (M+1) (W5.setCell ⟨M+1,j,none⟩ (.slice (some ⟨b,0,none⟩) n n)).heap.size n (j+1) l:=⟨by simp; omega,fun u hu=>by
    by_cases e:u=j
    ·subst e
     have hbl2:=hrow.lt;exact ⟨b,t,by rw [hF6.cell hlt]; simp,by omega,by simpa using hbl2,hrow.setOther (by show b≠M+1; omega) _,ht⟩
    ·obtain ⟨b',t',k1,k2,k3,k4,k5⟩:=hT.2 u (by omega)
     refine ⟨b',t',?_,k2,by simp; omega,(k4.of_block (hbW.block _ (by omega))).setOther (by show b'≠M+1; omega) _,k5⟩;rw [hF6.cell (show u<n by omega),if_neg e];have:=(hF.cell (show u<n by omega)).symm.trans k1;exact this⟩
   have hb6:Below w.heap.size w (W5.setCell ⟨M+1,j,none⟩ (.slice (some ⟨b,0,none⟩) n n)):=(hb.trans (hbW.mono hb.size)).setCell (p:=⟨M+1,j,none⟩) (by show w.heap.size≤M+1; omega) _;clear hN hg hF hT hb hba hbw hbW hbs HRE g0 g1;go_wp2_with fail;go_round
   case rel=>exact ⟨j+1,_,rfl,by omega,hN6,hg6,hF6,hT6,by simp; omega,hb6⟩
   case measure=>exact ms (by omega)
  ·have hd1:=Df (show ¬ (j:Int)<n by omega)
   have hd2:=Df hlt;have hjn:n=j:=by omega
   subst hjn;clear hN hg hF;go_upto_region 13 with fail;have hrd:=World.rowIs_made wr (.bool false) n 4;have hba:=below_alloc wr (.cells (madeCells #[.bool false] n) 4);have hT1:=hT.keep hba.block;have hbw:=hb.trans (hba.mono hb.size);have hwD:=hb.size;have hzw:wr.heap.size<(wr.alloc (.cells (madeCells #[.bool false] n) 4)).heap.size:=by simp
   clear hT hb hba hmk2;generalize wr.alloc _=wa at hrd hT1 hbw hzw ⊢;generalize wr.heap.size=D at hrd hT1 hz hwD hzw ⊢;go_loopw [10,39] (fun out i wr=>∃ (j:Nat) (d:Nat→Bool),i=.int .i64 (j:Nat)∧j≤n∧FromTo wr (M+1) D n n l∧wr.rowIs D 4 n (fun v=>.bool (d v))∧(∀ v,v<n→(d v=true↔DoneTo l j v))∧OwnLL wr (D+1) out (compsTo n l j)∧D<wr.heap.size∧Below w.heap.size w wr) (fun _ i _=>n - (intOf i).toNat)
   case atStart=>exact ⟨0,fun _=>false,rfl,by omega,hT1,hrd.congr (fun _ _=>rfl),fun v _=>⟨fun h=>(by cases h),fun ⟨u,h,_⟩=>absurd h (by omega)⟩,OwnLL.nil _ _,hzw,hbw⟩
   case round=>
    clear hT1 hrd hbw hzw hd1 hd2 hlt;obtain ⟨j,d,rfl,hj,hT,hD,hdd,hLL,hzD,hb⟩:=hrel;have hj0:=zi j;have hwr:=Wi j (by omega);by_cases hlt:j<n
    ·have hd1:=Dt (show (j:Int)<n by omega)
     have hd2:=Dt hlt;have hjl:(j:Int)<(n:Int):=by omega
     have c0:=hD.cell hlt;have hdj:=(hdd j hlt).trans doneTo_late
     cases hdv:d j with
     | true=>
      rw [hdv] at c0;have hlate:=hdj.1 hdv;have hLL2:OwnLL wr (D+1) u10 (compsTo n l (j+1)):=by rw [(compsTo_succ n l j).1 hlate]; exact hLL
      have hdd2:∀ v,v<n→(d v=true↔DoneTo l (j+1) v):=fun v hv=>(hdd v hv).trans (doneTo_skip hlate).symm
      clear hLL hdd hdj hdv;go_wp2_with fail;go_round
      case rel=>exact ⟨j+1,d,rfl,by omega,hT,hD,hdd2,hLL2,hzD,hb⟩
      case measure=>exact ms (by omega)
     | false=>
      rw [hdv] at c0;have hnl:¬ Late l j:=fun h=>by have:=hdj.2 h; rw [hdv] at this; cases this
      obtain ⟨w0,rfl⟩:∃ w0,w0=wr:=⟨_,rfl⟩
      go_upto_region 18 with fail;have HLL:=hid hLL;have HB:=hid hb;have HDD:=hid hdd;have HT:=hid hT;clear hLL hb hdd hT hdj hdv c0;go_loopw [12,47] (fun cls i wr=>∃ (v:Nat) (d2:Nat→Bool),i=.int .i64 (v:Nat)∧v≤n∧wr.rowIs D 4 n (fun x=>.bool (d2 x))∧(∀ x,x<n→(d2 x=true↔DoneTo l j x∨(x<v∧Way l j x∧Way l x j)))∧wr.ownsRow w0.heap.size 3 1 cls (clsTo l j v).length (natC (clsTo l j v))∧Turn D (D+1) w0 wr) (fun _ i _=>n - (intOf i).toNat)
      case atStart=>exact ⟨0,d,rfl,by omega,hD,fun x hx=>(HDD.out x hx).trans ⟨.inl,fun h=>h.resolve_right (fun z=>absurd z.1 (by omega))⟩,World.ownsRow_nil _ _ _ _,Turn.refl _ _ _⟩
      case round=>
       clear hD;obtain ⟨v,d2,rfl,hv,hD,hd2,hown,hTu⟩:=hrel;have hv0:=zi v;have hwv:=Wi v (by omega);have HD2:=hid hd2;clear hd2;by_cases hvt:v<n
       ·have hd1':decide ((v:Int)<(n:Int))=true:=decide_eq_true (by omega)
        have hd2':decide (v<n)=true:=decide_eq_true hvt;have hvl:(v:Int)<(n:Int):=by omega
        have hT2:=HT.out.keep (fun k hk=>hTu.block k (by omega) (.inl hk));obtain ⟨bj,tj,k1,-,-,k2,k3⟩:=hT2.2 j hlt;obtain ⟨bv,tv,m1,-,-,m2,m3⟩:=hT2.2 v hvt;have e1:=k2.cell hvt;have e2:=m2.cell hlt;clear hT2;by_cases hw1:Way l j v
        ·by_cases hw2:Way l v j
         ·rw [(k3 v).2 hw1] at e1
          rw [(m3 j).2 hw2] at e2;have HCL:=hid (clsTo_yes ⟨hw1,hw2⟩);have hcl:=clsTo_len l j v
          have HD3:∀ x,x<n→((if x=v then true else d2 x)=true↔DoneTo l j x∨(x<v+1∧Way l j x∧Way l x j)):=fun x hx=>by
           by_cases q:x=v
           ·subst q; simp [hw1,hw2]
           ·rw [if_neg q]
            exact (HD2.out x hx).trans ⟨fun h=>h.imp id (fun z=>⟨by omega,z.2⟩),fun h=>h.imp id (fun z=>⟨by omega,z.2⟩)⟩
          have hvD:u12.ownBlock≠some D:=fun e=>by have:=(hown.lt D e).1; omega
          have hvB:∀ g,u12.ownBlock=some g→w0.heap.size≤g:=fun g e=>(hown.lt g e).1
          have hzz:=hTu.size;clear k3 m3 hw1 hw2 HD2;go_upto_region 22 with (at_builtin; refine wpList_append_own _ rfl (.tmp 66) (.tmp 68) _ rfl w0.heap.size 3 i0 (.int .i64 0) 1 8 Tryz.underlying27 hi hz0 hz1 hz2 rfl (by omega) _ _ _ rfl (World.ownsRow.alloc hown _) ⟨wr.heap.size,0,none⟩ 1 1 [.int .i64 v] rfl rfl (cell_one_new _ _ _) (by simp [Value.oneCell']) (by unfold maxLen; omega) (by omega) (by simp; omega) ?_; intro v2 w3 hown2 hg2 _)
          have hD4:=(hD.alloc (.cells #[.int .i64 (v:Int)] 3)).of_block (hg2.block D (by simp; omega) (fun e=>hvD e.symm));have hTu4:Turn D (D+1) w0 w3:=⟨hg2.os.trans hTu.os,hg2.tape.trans hTu.tape,hg2.output.trans hTu.output,by have:=hg2.size; simp at this; omega,fun k hk hr=>(hg2.block k (by simp; omega) (fun e=>by have:=hvB k e.symm; omega)).trans (((below_alloc wr _).block k (by omega)).trans (hTu.block k hk hr))⟩
          have c4:=hD4.cell hvt;have f4:=hD4.frozen v;have hD5:=hD4.set v (.bool true);have hTu5:=hTu4.setCell (a:=⟨D,v,none⟩) ⟨Nat.le_refl _,by show D<D+1; omega⟩ (.bool true);have hown5:=own_set_far hown2 (b:=D) (fun g e=>by have:=(hown2.lt g e).1; omega) v (.bool true);clear hown hD hTu hg2 hown2 hD4 hTu4 e1 e2 k1 m1;go_wp2_with fail;go_round
          case rel=>exact ⟨v+1,fun x=>if x=v then true else d2 x,rfl,by omega,hD5.congr (fun x _=>by by_cases e:x=v <;> simp [e]),HD3,by rw [HCL.out,List.length_append,natC_push]; exact hown5,hTu5⟩
          case measure=>exact ms (by omega)
         ·have e3:tv j=false:=Bool.eq_false_iff.2 (fun z=>hw2 ((m3 j).1 z))
          rw [(k3 v).2 hw1] at e1;rw [e3] at e2;have HCL:=hid (clsTo_no (fun z=>hw2 z.2):clsTo l j (v+1)=clsTo l j v)
          have HD3:∀ x,x<n→(d2 x=true↔DoneTo l j x∨(x<v+1∧Way l j x∧Way l x j)):=fun x hx=>(HD2.out x hx).trans ⟨fun h=>h.imp id (fun z=>⟨by omega,z.2⟩),fun h=>h.imp id (fun z=>⟨by
           have:x≠v:=fun q=>by subst q; exact hw2 z.2.2
           omega,z.2⟩)⟩
          clear k3 m3 hw1 hw2 HD2;go_wp2_with fail;go_round
          case rel=>exact ⟨v+1,d2,rfl,by omega,hD,HD3,by rw [HCL.out]; exact hown,hTu⟩
          case measure=>exact ms (by omega)
        ·have e3:tj v=false:=Bool.eq_false_iff.2 (fun z=>hw1 ((k3 v).1 z))
         rw [e3] at e1;have HCL:=hid (clsTo_no (fun z=>hw1 z.1):clsTo l j (v+1)=clsTo l j v)
         have HD3:∀ x,x<n→(d2 x=true↔DoneTo l j x∨(x<v+1∧Way l j x∧Way l x j)):=fun x hx=>(HD2.out x hx).trans ⟨fun h=>h.imp id (fun z=>⟨by omega,z.2⟩),fun h=>h.imp id (fun z=>⟨by
          have:x≠v:=fun q=>by subst q; exact hw1 z.2.1
          omega,z.2⟩)⟩
         clear k3 m3 hw1 HD2;go_wp2_with fail;go_round
         case rel=>exact ⟨v+1,d2,rfl,by omega,hD,HD3,by rw [HCL.out]; exact hown,hTu⟩
         case measure=>exact ms (by omega)
       ·have hd1':decide ((v:Int)<(n:Int))=false:=decide_eq_false (by omega)
        have hd2':decide (v<n)=false:=decide_eq_false hvt;have hnv:n=v:=by omega
        subst hnv;obtain ⟨r,hrr,-⟩:=class_head hlt hnl;have hne:(clsTo l j n).length≠0:=by rw [← clsTo_all,hrr]; simp
        have hcl:=clsTo_len l j n;have hcc:=fun g (hg:u12.ownBlock=some g)=>hown.cells hg
        obtain ⟨g,cap,rfl,hgb,hgl⟩:∃ g cap,u12=.slice (some ⟨g,0,none⟩) (clsTo l j n).length cap∧w0.heap.size≤g∧g<wr.heap.size:=by
         rcases hown.2 with ⟨-,z⟩ | ⟨g,cap,cur,e,hb',hg',-⟩
         ·exact absurd z hne
         ·exact ⟨g,cap,e,hb',(Array.getElem?_eq_some_iff.1 hg').1⟩
        have hck:∀ k (hk:k<(clsTo l j n).length),wr.cell? ⟨g,k,none⟩=some (.int .i64 (clsTo l j n)[k]):=fun k hk=>by
         have:=hcc g rfl k (.int .i64 (clsTo l j n)[k]) (by simp [natC,hk])
         rwa [Addr.add_lit,Nat.zero_add] at this
        have hLw:=HLL.out.keep (fun k hb' hk=>hTu.block k hk (.inr hb')) hTu.size;have hba:=below_alloc wr (.cells #[.slice (some ⟨g,0,none⟩) (clsTo l j n).length cap] 27);obtain ⟨vs,h1,h2⟩:=hLw.below hba
        have hug:u10.ownBlock≠some g:=fun e=>by
         obtain ⟨vs',h1',-⟩:=HLL.out;have:=(h1'.lt g e).2; omega
        have hul:∀ q,u10.ownBlock=some q→D+1≤q:=fun q e=>(h1.lt q e).1
        have hcn:=comps_len n l j;have hzz:=hTu.size;have hT5:=HT.out.keep (fun k hk=>hTu.block k (by omega) (.inl hk));have hb5:=HB.out.trans ((hTu.below (by omega)).mono hwD);have hdd5:∀ x,x<n→(d2 x=true↔DoneTo l (j+1) x):=fun x hx=>(HD2.out x hx).trans ⟨fun h=>doneTo_succ.2 (h.imp id (fun z=>z.2)),fun h=>(doneTo_succ.1 h).imp id (fun z=>⟨hx,z⟩)⟩
        clear hown hcc hLw hrr HLL HB HT HD2 hTu;go_upto_region 25 with (at_builtin; refine wpList_append_own_at _ rfl (.tmp 74) (.tmp 76) _ rfl (D+1) 27 i1 (.slice none 0 0) 1 24 Tryz.underlying35 hi1 hy0 hy1 hy2 rfl (by omega) _ _ _ rfl h1 ⟨wr.heap.size,0,none⟩ 1 1 [.slice (some ⟨g,0,none⟩) (clsTo l j n).length cap] rfl rfl (cell_one_new _ _ _) (by simp [Value.oneCell']) (by unfold maxLen; omega) (by omega) (by simp; omega) ?_; intro v3 w3 hown3 hg3 _ hob3)
        have hLL6:=OwnLL.push h1 h2 hown3 hg3 hob3 (by omega) (by simp; omega) hug (fun k hk=>(hba.cell (by show g<_; omega)).trans (hck k hk));rw [← clsTo_all,← (compsTo_succ n l j).2 hnl] at hLL6;have hk6:∀ k,k<D+1→w3.heap[k]? = wr.heap[k]?:=fun k hk=>(hg3.block k (by simp; omega) (fun e=>by have:=hul k e.symm; omega)).trans (hba.block k (by omega))
        have hD6:=hD.of_block (hk6 D (by omega));have hT6:=hT5.keep (fun k hk=>hk6 k (by omega));have hb6:Below w.heap.size w w3:=(hb5.trans (hba.mono (by omega))).grown hg3 (by simp; omega) (fun q e=>by have:=hul q e; omega);have hz6:D<w3.heap.size:=by have:=hg3.size; simp at this; omega
        clear h1 h2 hown3 hg3 hob3 hT5 hb5 hba hk6 hD hck;go_wp2_with fail;go_round
        case rel=>exact ⟨j+1,d2,rfl,by omega,hT6,hD6,hdd5,hLL6,hz6,hb6⟩
        case measure=>exact ms (by omega)
    ·have hd1:=Df (show ¬ (j:Int)<n by omega)
     have hd2:=Df hlt;have hjn:n=j:=by omega
     subst hjn;go_wp2_with fail;go_ret;exact ⟨_,rfl,hLL.base_ (by omega),hb⟩
end Go.Proofs.YtkpjdanfpolimaaGreat
