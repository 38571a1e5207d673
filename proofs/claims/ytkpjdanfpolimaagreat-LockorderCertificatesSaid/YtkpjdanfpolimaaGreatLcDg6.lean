/- digraph's Ranks, walked. Conditions: the edges are in range and strictly ascending. -/
import Derived.Test.YtkpjdanfpolimaaGreatLcDg5
set_option linter.unusedSimpArgs false
set_option maxRecDepth 100000
set_option maxHeartbeats 6400000
namespace Go.Proofs.YtkpjdanfpolimaaGreat
open Go.RowKit Go.Shelf
attribute [local go_sem] Oper.semAt_some
def RkR (n:Nat) (l:List (Nat × Nat)) (w:World):Ending→World→Prop:=fun e W=>∃ (v:Value) (c:Int),e=.returned (.tuple #[v,.int .i64 c])∧Below w.heap.size w W ∧
 ((c=0∧∃ o r,Topo n l o∧RkInv n l o n r∧W.ownsRow w.heap.size 3 1 v n (natC ((List.range n).map r)))∨(c=21∧v=.slice none 0 0∧Stuck n l))
theorem own_of_row {W:World} {B b n:Nat} {r:Nat→Nat} (hn:n≤200) (hB:B≤b) (h:W.rowIs b 3 n (fun v=>.int .i64 (r v:Int))):W.ownsRow B 3 1 (.slice (some ⟨b,0,none⟩) n n) n (natC ((List.range n).map r)):=by
 obtain ⟨c,hb,hc,hi⟩:=h;refine ⟨by simp [natC],.inr ⟨b,n,c,rfl,hB,hb,Nat.le_refl _,by unfold maxLen; omega,by omega,?_⟩⟩;apply List.ext_getElem?;intro i;by_cases e:i<n
 ·rw [List.getElem?_take_of_lt (by omega)]
  have:=hi i e;simpa [natC,e] using this
 ·rw [List.getElem?_eq_none (by simp; omega),List.getElem?_eq_none (by simp [natC]; omega)]
theorem ranks_any (n:Nat) (A:Option Addr) (c:Nat) (l:List (Nat × Nat)) (hn:n≤200) (hl:l.length≤2000) (hr:EdR n l) (hs:Strict l) (w:World) (h:Eds w w.heap.size A l) :
  Calls Tryz.prog 33 #[.int .i64 n,.slice A l.length c] w (RkR n l w):=by
 have HOR:=hid (order_any n A c l hn hl hr hs w h);have HBU:=hid (fun (W:World) (hb:Below w.heap.size w W)=>build_ok n A c l hn hl hr hs W (Rd.more (h.below hb) hb.size));have hmk:=fun W=>run_make_row' (P:=Tryz.prog) 27 3 (.int .i64 0) 8 Tryz.underlying27 (by kernel_rfl) rfl .i64 .i64 n (by omega) (by omega) W
 refine (callsIn_wide (n:=4)).1 (callsIn_of_wp_marks Tryz.func33 rfl trivial ?_ rfl);simp only [Tryz.ntmps33,List.size_toArray,List.length_cons,List.length_nil,Nat.reduceAdd,Nat.reduceSub,Array.replicate_succ,Array.replicate_zero,List.push_toArray,List.append_toArray,List.nil_append,List.cons_append];gi_wp2;refine ⟨trivial,(callsIn_wide.2 HOR.out).mono ?_⟩;rintro e w0 ⟨v0,c0,rfl,hb0,⟨rfl,o,ht,hown⟩ | ⟨rfl,rfl,hst⟩⟩
 ·obtain ⟨Ao,Co,rfl⟩:=own_form hown
  have hno:Nts w0 w0.heap.size Ao o:=by
   have:=Rd.of_own hown;show Rd _ _ _ _ o.length _;rw [ht.len]; exact this
  clear hown;gi_wp2;refine ⟨trivial,(callsIn_wide.2 (HBU.out w0 hb0)).mono ?_⟩;rintro e w1 ⟨N,rfl,hN,hNl,hb1⟩;unfold netV;have hno1:Nts w1 w1.heap.size Ao o:=Rd.more (hno.below' hb1 (Nat.le_refl _)) hb1.size;have hbw1:Below w.heap.size w w1:=hb0.trans (hb1.mono hb0.size);clear hno hb0 hb1 hNl HBU HOR;gi_upto_region 6 with fail;have hOM:=ord_new N hN hbw1;have hno2:=hno1.below' hOM.2 (Nat.le_refl _);have hO:=hOM.1;have hM0:=Marks.nil (w1.heap.size+3) (((w1.alloc (.cells #[.int .i64 n,.slice (some ⟨N,0,none⟩) n n] 98)).alloc (.cells (madeCells #[.int .i64 0] n) 3)).alloc (.cells #[.slice (some ⟨w1.heap.size+1,0,none⟩) n n] 27));clear hN hbw1 hmk hno1 hOM;generalize World.alloc _ _=wa at hO hM0 hno2 ⊢;generalize w1.heap.size=M at hO hM0 hno2 ⊢;rw [show M+1+1=M+2 from rfl];gi_upto_region 7 with fail
  refine wpIn_loop (fun a W=>∃ (i:Nat) (r:Nat→Nat) (Ds:List Nat) (u12 u34 u35 u36 u37 u38 u39 u54:Value),a=⟨((.int .i64 n:Value)::.slice A l.length c::undef::undef::.slice none 0 0::.int .i64 0::.slice Ao n Co::.int .i64 0::.pointer (some ⟨M,0,none⟩)::.bool true::.pointer (some ⟨M+2,0,none⟩)::undef::u12::undef::(.tuple #[.slice Ao n Co,.int .i64 0]:Value)::.int .i64 n::.slice A l.length c::(.tuple #[.slice Ao n Co,.int .i64 0]:Value)::.slice Ao n Co::.int .i64 0::.int .i64 0::.bool false::undef::(.tuple #[.agg #[.int .i64 n,.slice (some ⟨N,0,none⟩) n n],.bool true]:Value)::.int .i64 n::.slice A l.length c::(.tuple #[.agg #[.int .i64 n,.slice (some ⟨N,0,none⟩) n n],.bool true]:Value)::.agg #[.int .i64 n,.slice (some ⟨N,0,none⟩) n n]::.bool true::.int .i64 n::.slice (some ⟨M+1,0,none⟩) n n::.slice Ao n Co::.int .i64 n::.int .i64 (i:Nat)::u34::u35::u36::u37::u38::u39::undef::undef::undef::undef::undef::undef::undef::undef::undef::undef::undef::undef::undef::undef::u54::undef::[]).toArray,Ds.map markD⟩∧i≤n∧RkInv n l o i r∧Ord M n N l w (fun v=>.int .i64 (r v:Int)) W∧Nts W M Ao o∧Marks (M+3) Ds W) (fun a _=>n - (intOf (a.tmps.getD 33 undef)).toNat) ?start ?round
  case start=>exact ⟨0,fun _=>0,[],_,_,_,_,_,_,_,_,rfl,by omega,RkInv.zero n l o,hO.congr (fun _ _=>rfl),hno2,hM0⟩
  case round=>
   clear hO hM0 hno2;rintro _ W ⟨i,r,Ds,u12,u34,u35,u36,u37,u38,u39,u54,rfl,hin,hR,hO,hno,hM⟩;have hi0:=zi i;have hwr:=Wi i (by omega);by_cases hlt:i<n
   ·have hd1:=Dt (show (i:Int)<n by omega)
    have hd2:=Dt hlt;have hjl:(i:Int)<(n:Int):=by omega
    have hio:i<o.length:=by rw [ht.len]; exact hlt
    obtain ⟨ob,oo,rfl,hobl,co⟩:=hno.at_ hio;have huo:o[i]? = some o[i]:=List.getElem?_eq_getElem hio;have hun:=ht.lt _ (List.getElem_mem hio);generalize o[i]=u at co huo hun;have hu0:=zi u;have hu1:(u:Int)<(n:Int):=by omega
    gi_upto_region 9 with fail;have hba:=below_alloc W (.cells #[.int .i64 u] 3);have hU:=bx_new W #[.int .i64 u] 3;have hzU:=hO.size;have hO1:=hO.next hba hzU;have hno1:=hno.below' hba (by omega);have hM1:=hM.below hba;have hz1:(W.alloc (.cells #[.int .i64 u] 3)).heap.size=W.heap.size+1:=by simp
    clear hO hno hM co hba;generalize W.alloc _=W2 at hU hO1 hno1 hM1 hz1 ⊢;generalize W.heap.size=U at hU hzU hz1 ⊢;have g0:=hO1.gb 0 _ rfl;have g1:=hO1.gb 1 _ rfl;have e0:=hU 0 _ rfl;gi_wp2;refine ⟨trivial,(callsIn_wide.2 (succ_any n N u W2)).mono ?_⟩;rintro e W3 ⟨rfl,rfl⟩;have hbS:=succObjs_below n N u W2;have hzS:=succObjs_size n N u W2;have hmS:=succObjs_mem (M+1) n N u l W2 (hO1.net.more (by omega)) (by omega);have hO3:=hO1.next hbS (by omega);have hM3:=hM1.below hbS;have hno3:=hno1.below' hbS (by omega);have hU3:=hU.below hbS (by omega);have hDs:∀ D,D∈Ds→D<W2.heap.size:=fun D hD=>(Array.getElem?_eq_some_iff.1 (hM1.at_ D hD).2).1
    clear hO1 hM1 hno1 hU g0 g1 e0 hbS;generalize succObjs n N u W2=W3 at hzS hmS hO3 hM3 hno3 hU3 ⊢;have hUb:U+1≤W2.heap.size:=Nat.le_of_eq hz1.symm;generalize W2.heap.size=b0 at hzS hmS hDs hUb hz1 ⊢;clear hz1;unfold succVal;gi_wp2
    refine wpIn_rangeFunc_ac rfl (by omega) (gf:=75) (lb:=#[.pointer (some ⟨b0,0,none⟩),.pointer (some ⟨b0+1,0,none⟩)]) rfl trivial (enters_of Tryz.func75 (by kernel_rfl) rfl)
     (succ_stops 3 (by omega) (M+1) (M+2) n N l b0 u (by omega) hun hl W3 hmS (by omega))
     (fun h k=>h.trans k) (fun W l o o' _ hl hc _=>CellsKept.putObj o' hl hc) (Below.refl _ _) (fun _=>rfl)
     (fun A' B' k o hab _ ho hc=>hab.rec_ k o ho hc)
     (fun pre W=>∃ r:Nat→Nat,RkIn n l o i u pre r∧Ord M n N l w (fun v=>.int .i64 (r v:Int)) W∧Nts W M (some ⟨ob,oo,none⟩) o∧Bx W U [.int .i64 u]∧Marks (M+3) Ds W∧b0+2≤W.heap.size) (fun _ _ _=>False)
     (fun pre W W' row hs hg hr=>by
      obtain ⟨r,h0,h1,h2,h3,h4,h5⟩:=hs;have hbw:=below_grownFrom (B:=b0+2) hg (fun r e=>by have:=(hr r e).1; omega) h5;exact ⟨r,h0,h1.next hbw (by omega),h2.below' hbw (by omega),h3.below hbw (by omega),⟨h4.nodup,fun D hD=>⟨(h4.at_ D hD).1,(hbw.block D (by have:=hDs D hD; omega)).trans (h4.at_ D hD).2⟩⟩,Nat.le_trans h5 hg.size⟩)
     (fun _=>fun _ _ _ _ h _ _=>h)
     (fun pre A' B' hs hab=>by
      obtain ⟨r,h0,h1,h2,h3,h4,h5⟩:=hs;exact ⟨r,h0,h1.next hab.below (by omega),h2.below' hab.below (by omega),h3.below hab.below (by omega),h4.keep hab.rec_,Nat.le_trans h5 hab.below.size⟩)
     ⟨r,hR.enter u,hO3,hno3,hU3,hM3,by omega⟩
     (fun x a' _=>a'=⟨((.int .i64 n:Value)::.slice A l.length c::undef::undef::.slice none 0 0::.int .i64 0::.slice (some ⟨ob,oo,none⟩) n Co::.int .i64 0::.pointer (some ⟨M,0,none⟩)::.bool true::.pointer (some ⟨M+2,0,none⟩)::undef::.pointer (some ⟨U,0,none⟩)::.int .i64 (x:Nat)::(.tuple #[.slice (some ⟨ob,oo,none⟩) n Co,.int .i64 0]:Value)::.int .i64 n::.slice A l.length c::(.tuple #[.slice (some ⟨ob,oo,none⟩) n Co,.int .i64 0]:Value)::.slice (some ⟨ob,oo,none⟩) n Co::.int .i64 0::.int .i64 0::.bool false::undef::(.tuple #[.agg #[.int .i64 n,.slice (some ⟨N,0,none⟩) n n],.bool true]:Value)::.int .i64 n::.slice A l.length c::(.tuple #[.agg #[.int .i64 n,.slice (some ⟨N,0,none⟩) n n],.bool true]:Value)::.agg #[.int .i64 n,.slice (some ⟨N,0,none⟩) n n]::.bool true::.int .i64 n::.slice (some ⟨M+1,0,none⟩) n n::.slice (some ⟨ob,oo,none⟩) n Co::.int .i64 n::.int .i64 (i:Nat)::.bool true::.pointer (some ⟨ob,oo+i,none⟩)::.int .i64 (u:Nat)::.agg #[.int .i64 n,.slice (some ⟨N,0,none⟩) n n]::.int .i64 (u:Nat)::.func (.func 75) #[] #[.pointer (some ⟨b0,0,none⟩),.pointer (some ⟨b0+1,0,none⟩)]::.int .i64 (x:Nat)::undef::undef::undef::undef::undef::undef::undef::undef::undef::undef::undef::undef::undef::u54::undef::[]).toArray,[]⟩) (fun _ _ _ _ _ hs _ _=>hs) ?assign ?body ?done ?stop
    case assign=>
     rintro lp pre x W K hJ hK';gi_wp2;exact hK' _ _ (KeepsFrom.refl _ _) (CellsKept.refl _ _ _) hJ rfl
    case stop=>rintro D c' pre W hD _ hno hK'; exact hno.elim
    case body=>
     rintro lp pre x a' W ⟨r2,h0,h1,h2,h3,h4,h5⟩ rfl hpre;have hxe:(u,x)∈l:=mem_succs.1 (hpre.subset (by simp));have hxn:x<n:=(hr _ hxe).2;have hst:=h0.step ht huo hxe;have hrx:=h0.le x;have hru:=h0.own;have c0:=h1.row.cell hxn;have c1:=h1.row.cell hun;have f0:=h1.row.frozen x;have o0:=h1.ob 0 _ rfl;have e0:=h3 0 _ rfl;have hx0:=zi x;have hx1:(x:Int)<(n:Int):=by omega
     have hwy:IntKind.i64.wrap ((r2 u:Int)+1)=(r2 u:Int)+1:=by rw [IntKind.wrap_i64]; omega
     gi_upto_region 11 with fail;refine wp_region_round (S:=fun w'=>w'.cell? ⟨M+2,0,none⟩=some (.slice (some ⟨M+1,0,none⟩) n n)∧w'.cell? ⟨U,0,none⟩=some (.int .i64 u)) (by kernel_rfl) (by kernel_rfl) (fun h=>by obtain ⟨_,_,h⟩:=h; exact h) ⟨o0,e0⟩ (fun hHeld=>?_);have k0:W.drew.cell? ⟨M+1,x,none⟩=some (.int .i64 (r2 x:Int)):=c0;have k1:W.drew.cell? ⟨M+1,u,none⟩=some (.int .i64 (r2 u:Int)):=c1;have kf:W.drew.frozen? ⟨M+1,x,none⟩=false:=f0;have h1d:=h1.next (below_drews W.heap.size W 1) h1.size;have h2d:Nts W.drew M (some ⟨ob,oo,none⟩) o:=h2;have h3d:Bx W.drew U [.int .i64 u]:=h3;have h4d:=h4.below (below_drews W.heap.size W 1);change Ord M n N l w _ W.drew at h1d;change Marks _ _ W.drew at h4d;have h5d:b0+2≤W.drew.heap.size:=h5
     have hkf:KeepsFrom W3.heap.size W W.drew:=⟨Nat.le_refl _,fun _ _ _ h _=>h⟩
     have hkc:CellsKept (M+1) (M+2) W W.drew:=⟨Nat.le_refl _,fun _ _ _ _ _ h=>h⟩
     clear c0 c1 f0 h1 h2 h3 h4 h5 o0 e0;generalize W.drew=Wd at k0 k1 kf h1d h2d h3d h4d h5d hkf hkc hHeld ⊢
     have hS4:∀ v,(Wd.setCell ⟨M+1,x,none⟩ v).cell? ⟨M+2,0,none⟩=some (.slice (some ⟨M+1,0,none⟩) n n)∧(Wd.setCell ⟨M+1,x,none⟩ v).cell? ⟨U,0,none⟩=some (.int .i64 u):=fun v=>
      ⟨(World.cell?_setCell_far _ _ _ _ (by show M+1≠M+2; omega)).trans hHeld.1,(World.cell?_setCell_far _ _ _ _ (by show M+1≠U; omega)).trans hHeld.2⟩
     have HFIN:=hid (show KeepsFrom W3.heap.size W (Wd.setCell ⟨M+1,x,none⟩ (.int .i64 (max (r2 x:Int) ((r2 u:Int)+1))))∧CellsKept (M+1) (M+2) W (Wd.setCell ⟨M+1,x,none⟩ (.int .i64 (max (r2 x:Int) ((r2 u:Int)+1)))) ∧
       ∃ r:Nat→Nat,RkIn n l o i u (pre++[x]) r∧Ord M n N l w (fun v=>.int .i64 (r v:Int)) (Wd.setCell ⟨M+1,x,none⟩ (.int .i64 (max (r2 x:Int) ((r2 u:Int)+1))))∧Nts (Wd.setCell ⟨M+1,x,none⟩ (.int .i64 (max (r2 x:Int) ((r2 u:Int)+1)))) M (some ⟨ob,oo,none⟩) o∧Bx (Wd.setCell ⟨M+1,x,none⟩ (.int .i64 (max (r2 x:Int) ((r2 u:Int)+1)))) U [.int .i64 u]∧Marks (M+3) Ds (Wd.setCell ⟨M+1,x,none⟩ (.int .i64 (max (r2 x:Int) ((r2 u:Int)+1))))∧b0+2≤(Wd.setCell ⟨M+1,x,none⟩ (.int .i64 (max (r2 x:Int) ((r2 u:Int)+1)))).heap.size from
      ⟨hkf.trans ((KeepsOthers.setCell _ _ _).from _),hkc.trans ⟨by simp,fun k c e fr hk hc=>(heap_setCell_other _ _ _ _ (by show k≠M+1; omega)).trans hc⟩,_,hst,h1d.set x _ (fun v _=>by
       by_cases e:v=x
       ·subst e; rw [if_pos rfl,if_pos rfl]; congr 1; omega
       ·rw [if_neg e,if_neg e]),h2d.below' ((Below.refl M Wd).setCell (p:=⟨M+1,x,none⟩) (by show M≤M+1; omega) _) (Nat.le_refl _),fun j u9 hu9=>(World.cell?_setCell_far _ _ _ _ (by show M+1≠U; omega)).trans (h3d j u9 hu9),h4d.row h1d.row x _,by simpa using h5d⟩)
     refine tkH 0 rfl ?_;try simp only [frS,Act.put]
     refine tkH 1 rfl ?_;try simp only [frS,Act.put]
     refine tkH 2 rfl ?_;try simp only [frS,Act.put]
     refine tkH 3 rfl ?_;try simp only [frS,Act.put]
     refine tkH 4 rfl ?_;try simp only [frS,Act.put]
     refine tkH 6 rfl ?_;try simp only [frS,Act.put]
     refine tkH 7 rfl ?_;try simp only [frS,Act.put]
     refine tkH 8 rfl ?_;try simp only [frS,Act.put]
     refine wpAnyH_ready (rs:=[5,9]) (by kernel_rfl) (by simp) ?_;refine (AllReadyH.cons rfl (fun K hK=>?_) (AllReadyH.cons rfl (fun K hK=>?_) AllReadyH.nil))
     ·go_simp
      refine hK.out _ _ ?_ (fun hHeld=>?_)
      ·exact hHeld
      clear hK K;try simp only [frS,Act.put]
      refine rdH 9 rfl fun K hK=>?_
      go_simp;refine hK.out _ _ ?_ (fun hHeld=>?_)
      ·exact hHeld
      clear hK K;try simp only [frS,Act.put]
      refine tkH 10 rfl ?_;try simp only [frS,Act.put]
      refine rdH 11 rfl fun K hK=>?_
      go_simp;refine hK.out _ _ ?_ (fun hHeld=>?_)
      ·exact hHeld
      clear hK K;try simp only [frS,Act.put]
      refine tkH 12 rfl ?_;try simp only [frS,Act.put]
      refine rdH 13 rfl fun K hK=>?_
      go_simp;refine hK.out _ _ ?_ (fun hHeld=>?_)
      ·exact hS4 _
      clear hK K;try simp only [frS,Act.put]
      refine wpAnyH_done (by kernel_rfl) ?_ _;exact HFIN.out
     ·go_simp
      refine hK.out _ _ ?_ (fun hHeld=>?_)
      ·exact hHeld
      clear hK K;try simp only [frS,Act.put]
      refine tkH 10 rfl ?_;try simp only [frS,Act.put]
      refine rdH 5 rfl fun K hK=>?_
      go_simp;refine hK.out _ _ ?_ (fun hHeld=>?_)
      ·exact hHeld
      clear hK K;try simp only [frS,Act.put]
      refine rdH 11 rfl fun K hK=>?_
      go_simp;refine hK.out _ _ ?_ (fun hHeld=>?_)
      ·exact hHeld
      clear hK K;try simp only [frS,Act.put]
      refine tkH 12 rfl ?_;try simp only [frS,Act.put]
      refine rdH 13 rfl fun K hK=>?_
      go_simp;refine hK.out _ _ ?_ (fun hHeld=>?_)
      ·exact hS4 _
      clear hK K;try simp only [frS,Act.put]
      refine wpAnyH_done (by kernel_rfl) ?_ _;exact HFIN.out
    case done=>
     rintro D ys W hD rfl ⟨r2,h0,h1,h2,h3,h4,h5⟩ hKD;have hM5:=h4.push (D:=D) (by omega) (fun hm=>by have:=hDs D hm; omega) hKD;have hRn:=h0.leave huo;clear h0 h3 h4 hKD hR;gi_wp2;exact ⟨⟨i+1,r2,D::Ds,_,_,_,_,_,_,_,_,rfl,by omega,hRn,h1,h2,hM5⟩,by simp [intOf]; omega⟩
   ·have hd1:=Df (show ¬ (i:Int)<n by omega)
    have hd2:=Df hlt;have hin2:i=n:=by omega
    subst hin2;have o0:=hO.ob 0 _ rfl;gi_wp2;exact leaves_marks Ds W hM (fun W' hT=>⟨_,results_tmp2 rfl _ _ _,_,0,rfl,hO.below.trans ((hT.below hM).mono (by have:=hO.lo; omega)),.inl ⟨rfl,o,r,ht,hR,hT.own hM (own_of_row hn (by have:=hO.lo; omega) hO.row)⟩⟩)
 ·gi_wp2
  exact leaves_marks [] w0 (Marks.nil w.heap.size w0) (fun W' hT=>⟨_,results_tmp2 rfl _ _ _,_,21,rfl,hb0.trans (hT.below (Marks.nil w.heap.size w0)),.inr ⟨rfl,rfl,hst⟩⟩)
end Go.Proofs.YtkpjdanfpolimaaGreat
