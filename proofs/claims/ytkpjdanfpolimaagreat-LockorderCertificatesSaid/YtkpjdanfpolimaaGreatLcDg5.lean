/- digraph's Order, walked. Conditions: the edges are in range and strictly ascending. -/
import Derived.Test.YtkpjdanfpolimaaGreatLcDg3
import Derived.Lib.Slices
set_option maxRecDepth 100000
set_option maxHeartbeats 6400000
namespace Go.Proofs.YtkpjdanfpolimaaGreat
open Go.RowKit Go.Shelf
attribute [local go_sem] Oper.semAt_some
def OrdR (n:Nat) (l:List (Nat × Nat)) (w:World):Ending→World→Prop:=fun e W=>∃ (v:Value) (c:Int),e=.returned (.tuple #[v,.int .i64 c])∧Below w.heap.size w W ∧
 ((c=0∧∃ o,Topo n l o∧W.ownsRow w.heap.size 3 1 v n (natC o))∨(c=21∧v=.slice none 0 0∧Stuck n l))
theorem first_zero (f:Nat→Int):∀ n:Nat,(∀ j,j<n→f j≠0)∨∃ k,k<n∧f k=0∧∀ j,j<k→f j≠0
 | 0=>.inl fun _ h=>absurd h (by omega)
 | n+1=>by
  rcases first_zero f n with h | ⟨k,h1,h2,h3⟩
  ·by_cases e:f n=0
   ·exact .inr ⟨n,by omega,e,h⟩
   ·refine .inl fun j hj=>?_
    by_cases z:j=n
    ·subst z; exact e
    ·exact h j (by omega)
  ·exact .inr ⟨k,by omega,h2,h3⟩
theorem own_base {W:World} {B B' e size n:Nat} {v:Value} {xs:List Value} (h:W.ownsRow B e size v n xs) (hB:B'≤B):W.ownsRow B' e size v n xs:=by
 refine ⟨h.1,?_⟩;rcases h.2 with h1 | ⟨g,cap,cur,e1,hb,rest⟩
 ·exact .inl h1
 ·exact .inr ⟨g,cap,cur,e1,by omega,rest⟩
theorem own_set {W:World} {B e size n:Nat} {v:Value} {xs:List Value} (h:W.ownsRow B e size v n xs) {b:Nat} (hB:b<B) (x:Nat) (u:Value):(W.setCell ⟨b,x,none⟩ u).ownsRow B e size v n xs:=by
 refine ⟨h.1,?_⟩;rcases h.2 with h1 | ⟨g,cap,cur,e1,hb,hg,rest⟩
 ·exact .inl h1
 ·exact .inr ⟨g,cap,cur,e1,hb,(heap_setCell_other _ _ _ _ (by show g≠b; omega)).trans hg,rest⟩
theorem own_next {W W':World} {B e size n:Nat} {v:Value} {xs:List Value} (h:W.ownsRow B e size v n xs) (hb:Below W.heap.size W W'):W'.ownsRow B e size v n xs:=
 World.ownsRow.kept h (row:=none) ⟨hb.os,hb.tape,hb.output,hb.size,fun k hk _=>hb.block k hk⟩ (by cases v.ownBlock <;> simp)
theorem own_lower {W W':World} {B C e size n:Nat} {v:Value} {xs:List Value} (h:W.ownsRow B e size v n xs) (hv:∀ g,v.ownBlock=some g→g<C) (hb:Below C W W'):W'.ownsRow B e size v n xs:=by
 refine ⟨h.1,?_⟩;rcases h.2 with h1 | ⟨g,cap,cur,rfl,hb',hg,rest⟩
 ·exact .inl h1
 ·exact .inr ⟨g,cap,cur,rfl,hb',(hb.block g (hv g rfl)).trans hg,rest⟩
def slLen:Value→Nat
 | .slice _ k _=>k
 | _=>0
def cntV (l:List (Nat × Nat)) (v:Nat):Value:=.int .i64 (entr l [] v:Int)
theorem cntV_push (l:List (Nat × Nat)) (x:Nat × Nat) (v:Nat):cntV (l++[x]) v=if v=x.2 then .int .i64 ((entr l [] v:Int)+1) else cntV l v:=by
 unfold cntV;rw [entr_append];by_cases h:v=x.2
 ·subst h; simp [entr]
 ·have:(x.2 == v)=false:=by simpa using fun e=>h e.symm
  simp [entr,this,h]
theorem order_any (n:Nat) (A:Option Addr) (c:Nat) (l:List (Nat × Nat)) (hn:n≤200) (hl:l.length≤2000) (hr:EdR n l) (hs:Strict l) (w:World) (h:Eds w w.heap.size A l) :
  Calls Tryz.prog 27 #[.int .i64 n,.slice A l.length c] w (OrdR n l w):=by
 obtain ⟨i0,hi,hz⟩:=Option.map_eq_some_iff.1 intInfo;have hz0:i0.zero=some (.int .i64 0):=congrArg (fun t=>t.1) hz;have hz1:i0.size=1:=congrArg (fun t=>t.2.1) hz;have hz2:i0.bytes=8:=congrArg (fun t=>t.2.2) hz;clear hz;have HBU:=hid (build_ok n A c l hn hl hr hs w h);have hmk:=fun W=>run_make_row' (P:=Tryz.prog) 27 3 (.int .i64 0) 8 Tryz.underlying27 (by kernel_rfl) rfl .i64 .i64 n (by omega) (by omega) W
 refine (callsIn_wide (n:=4)).1 (callsIn_of_wp_marks Tryz.func27 rfl trivial ?_ rfl);simp only [Tryz.ntmps27,List.size_toArray,List.length_cons,List.length_nil,Nat.reduceAdd,Nat.reduceSub,Array.replicate_succ,Array.replicate_zero,List.push_toArray,List.append_toArray,List.nil_append,List.cons_append];gi_wp2;refine ⟨trivial,(callsIn_wide.2 HBU.out).mono ?_⟩;rintro e w1 ⟨N,rfl,hN,hNl,hb1⟩;unfold netV;gi_upto_region 5 with fail;have hO:=(ord_new N hN hb1).1.congr (g:=cntV (l.take 0)) (fun i _=>by simp [cntV,entr]);have hM0:Marks (w1.heap.size+3) [] (((w1.alloc (.cells #[.int .i64 n,.slice (some ⟨N,0,none⟩) n n] 98)).alloc (.cells (madeCells #[.int .i64 0] n) 3)).alloc (.cells #[.slice (some ⟨w1.heap.size+1,0,none⟩) n n] 27)):=Marks.nil _ _;clear hN hb1 hmk HBU;generalize World.alloc _ _=wa at hO hM0 ⊢
 generalize w1.heap.size=M at hO hM0 ⊢;rw [show M+1+1=M+2 from rfl];gi_upto_region 6 with fail;gi_loopw [10,26] (fun _ i wr=>∃ k:Nat,i=.int .i64 (k:Nat)∧k≤l.length∧Ord M n N l w (cntV (l.take k)) wr) (fun _ i _=>l.length - (intOf i).toNat)
 case atStart=>exact ⟨0,rfl,by omega,hO⟩
 case round=>
  clear hO;obtain ⟨k,rfl,hk,hO⟩:=hrel;have hk0:=zi k;have hwr:=Wi k (by omega);by_cases hlt:k<l.length
  ·have hd1:=Dt (show (k:Int)<l.length by omega)
   have hd2:=Dt hlt;have hjl:(k:Int)<(l.length:Int):=by omega
   obtain ⟨b,off,rfl,had,h1,h2⟩:=(h.below hO.below).at_ hlt;have hrk:=hr _ (List.getElem_mem hlt);have HTK:=hid (show l.take (k+1)=l.take k++[l[k]] by rw [List.take_add_one,List.getElem?_eq_getElem hlt]; rfl);generalize l[k]=x at h1 h2 hrk HTK;obtain ⟨x1,x2⟩:=x;dsimp only at h1 h2 hrk;obtain ⟨hx1,hx2⟩:=hrk;gi_upto_region 8 with fail;have hba:=below_alloc wr (.cells #[.int .i64 x1,.int .i64 x2] 47);have hE:=bx_new wr #[.int .i64 x1,.int .i64 x2] 47;have hOa:=hO.next hba hO.size;have hzE:=hO.size;clear hO h1 h2 hba;generalize wr.alloc _=wa at hOa hE ⊢;generalize wr.heap.size=E at hE hzE ⊢;have e1:=hE 1 _ rfl;have o0:=hOa.ob 0 _ rfl;have c0:=hOa.row.cell hx2;have f0:=hOa.row.frozen x2;have hx0:=zi x2;have hxn:(x2:Int)<(n:Int):=by omega
   unfold cntV at c0;have hel:=entr_le (l.take k) [] x2;rw [List.length_take] at hel;have HCT:=hid (fun v=>cntV_push (l.take k) (x1,x2) v);generalize hen:entr (l.take k) [] x2=en at c0 hel;have HEN:=hid hen;clear hen;have hwe:=Wi en (by omega);gi_wp2
   exact ⟨⟨k+1,rfl,by omega,hOa.set x2 _ (fun v _=>by
    rw [HTK.out,HCT.out v];by_cases e:v=x2
    ·rw [if_pos e,if_pos e,e,HEN.out]
    ·rw [if_neg e,if_neg e])⟩,by simp [intOf]; omega⟩
  ·have hd1:=Df (show ¬ (k:Int)<l.length by omega)
   have hd2:=Df hlt;have hO2:=hO.congr (g:=fun v=>.int .i64 (opOf l [] v)) (fun v _=>by rw [List.take_of_length_le (by omega)]; simp [cntV,opOf]);clear hO;have hM:Marks (M+3) [] wr:=Marks.nil _ _;have hzA:∀ W,Ord M n N l w (fun v=>.int .i64 (opOf l [] v)) W→M+3≤W.heap.size:=fun W h=>h.size
   clear hM0;gi_upto_region 11 with fail
   refine wpIn_loop (fun a W=>∃ (o:List Nat) (v:Value) (Ds:List Nat) (u12 u38 u39 u40 u41 u42 u43 u44 u45 u46 u47 u48 u49 u50 u51 u59 u60 u61 u62:Value),a=⟨((.int .i64 n:Value)::.slice A l.length c::undef::undef::.slice none 0 0::.int .i64 0::.pointer (some ⟨M,0,none⟩)::.bool true::.pointer (some ⟨M+2,0,none⟩)::undef::u10::v::u12::undef::(.tuple #[.agg #[.int .i64 n,.slice (some ⟨N,0,none⟩) n n],.bool true]:Value)::.int .i64 n::.slice A l.length c::(.tuple #[.agg #[.int .i64 n,.slice (some ⟨N,0,none⟩) n n],.bool true]:Value)::.agg #[.int .i64 n,.slice (some ⟨N,0,none⟩) n n]::.bool true::.bool true::.bool false::.int .i64 n::.slice (some ⟨M+1,0,none⟩) n n::.slice A l.length c::.int .i64 l.length::.int .i64 k::.bool false::u28::u29::u30::u31::u32::u33::u34::u35::u36::u37::u38::u39::u40::u41::u42::u43::u44::u45::u46::u47::u48::u49::u50::u51::undef::undef::undef::undef::undef::undef::undef::u59::u60::u61::u62::undef::[]).toArray,Ds.map markD⟩∧Kahn n l o∧o.length≤n∧Ord M n N l w (fun v=>.int .i64 (opOf l o v)) W∧W.ownsRow (M+3) 3 1 v o.length (natC o)∧Marks (M+3) Ds W) (fun a _=>n - slLen (a.tmps.getD 11 undef)) ?start ?round
   case start=>exact ⟨[],_,[],_,_,_,_,_,_,_,_,_,_,_,_,_,_,_,_,_,_,_,rfl,Kahn.nil n l,by simp,hO2,World.ownsRow_nil _ _ _ _,hM⟩
   case round=>
    clear hO2 hM hzA;rintro _ W ⟨o,v,Ds,u12,u38,u39,u40,u41,u42,u43,u44,u45,u46,u47,u48,u49,u50,u51,u59,u60,u61,u62,rfl,hK,hon,hO,hown,hM⟩;obtain ⟨va,vc,rfl⟩:=own_form hown;by_cases hol:o.length<n
    ·have hd3:=Dt (show (o.length:Int)<n by omega)
     have hd4:=Dt hol;have o0:=hO.ob 0 _ rfl
     have HIX:=hid (Tryz.slices_Index_int (M+1) 0 n n ((List.range n).map (opOf l o)) 0 W (by simp) (by omega) (fun j hj=>by
      have hj2:j<n:=by simpa using hj
      have:=hO.row.cell hj2;simpa [hj2] using this))
     rcases first_zero (opOf l o) n with hno | ⟨u,hu,hu0,huf⟩
     ·have hix:Lib.idxOf (((List.range n).map (opOf l o)).take n) 0 = -1:=Lib.idxOf_miss _ n 0 (fun j hj=>by simpa [hj] using hno j hj)
      rw [hix] at HIX;clear hix;gi_wp2;refine ⟨trivial,(callsIn_wide.2 HIX.out).mono ?_⟩;rintro e W1 ⟨rfl,rfl⟩;gi_wp2;exact leaves_marks Ds W1 hM (fun W' hT=>⟨_,results_tmp2 rfl _ _ _,_,21,rfl,hO.below.trans ((hT.below hM).mono (by have:=hO.lo; omega)),.inr ⟨rfl,rfl,Kahn.stuck hr hol hno⟩⟩)
     ·have hix:Lib.idxOf (((List.range n).map (opOf l o)).take n) 0=(u:Int):=Lib.idxOf_hit _ n u 0 hu (by simp) (by simpa [hu] using hu0) (fun j hj=>by
       have hjn:j<n:=by omega
       simpa [hjn] using huf j hj)
      rw [hix] at HIX;have hdu:=Df (show ¬ (u:Int)<0 by omega);have hu0':(0:Int)≤(u:Int):=by omega
      have hun:(u:Int)<(n:Int):=by omega
      clear hix huf;gi_wp2;refine ⟨trivial,(callsIn_wide.2 HIX.out).mono ?_⟩;rintro e W1 ⟨rfl,rfl⟩;have c0:=hO.row.cell hu;have f0:=hO.row.frozen u;gi_upto_region 16 with fail;have hM1:=hM.row hO.row u (.int .i64 (-1));have hO1:=hO.set u (.int .i64 (-1)) (g:=fun v=>.int .i64 ((if v=u then -1 else opOf l o v) - (([]:List Nat).count v:Nat))) (fun v _=>by by_cases e:v=u <;> simp [e]);have hown1:(W1.setCell ⟨M+1,u,none⟩ (.int .i64 (-1))).ownsRow (M+3) 3 1 (.slice va o.length vc) o.length (natC o):=own_set hown (by omega) _ _;have hzM:M+3≤(W1.setCell ⟨M+1,u,none⟩ (.int .i64 (-1))).heap.size:=hO1.size;clear hO hM hown o0 c0 f0 HIX;generalize W1.setCell ⟨M+1,u,none⟩ _=W2 at hM1 hO1 hown1 hzM ⊢;have g0:=hO1.gb 0 _ rfl;have g1:=hO1.gb 1 _ rfl;gi_wp2;refine ⟨trivial,(callsIn_wide.2 (succ_any n N u W2)).mono ?_⟩
      rintro e W3 ⟨rfl,rfl⟩;have hbS:=succObjs_below n N u W2;have hzS:=succObjs_size n N u W2;have hmS:=succObjs_mem (M+1) n N u l W2 (hO1.net.more (by omega)) (by omega);have hO3:=hO1.next hbS hzM;have hM3:=hM1.below hbS;have hown3:=own_next hown1 hbS;have hvg:∀ g,(Value.slice va o.length vc).ownBlock=some g→g<W2.heap.size:=fun g e=>(hown1.lt g e).2
      have hDs:∀ D,D∈Ds→D<W2.heap.size:=fun D hD=>(Array.getElem?_eq_some_iff.1 (hM1.at_ D hD).2).1
      clear hO1 hM1 hown1 g0 g1 hbS;generalize succObjs n N u W2=W3 at hzS hmS hO3 hM3 hown3 ⊢;generalize W2.heap.size=b0 at hzS hmS hvg hDs hzM ⊢;unfold succVal;gi_wp2
      refine wpIn_rangeFunc_ac rfl (by omega) (gf:=75) (lb:=#[.pointer (some ⟨b0,0,none⟩),.pointer (some ⟨b0+1,0,none⟩)]) rfl trivial (enters_of Tryz.func75 (by kernel_rfl) rfl)
       (succ_stops 3 (by omega) (M+1) (M+2) n N l b0 u (by omega) hu hl W3 hmS (by omega))
       (fun h k=>h.trans k) (fun W l o o' _ hl hc _=>CellsKept.putObj o' hl hc) (Below.refl _ _) (fun _=>rfl)
       (fun A' B' k o hab _ ho hc=>hab.rec_ k o ho hc)
       (fun pre W=>Ord M n N l w (fun v=>.int .i64 ((if v=u then -1 else opOf l o v) - (pre.count v:Nat))) W∧W.ownsRow (M+3) 3 1 (.slice va o.length vc) o.length (natC o)∧Marks (M+3) Ds W∧b0+2≤W.heap.size) (fun _ _ _=>False)
       (fun pre W W' row hs hg hr=>by
        obtain ⟨h1,h2,h3,h4⟩:=hs;have hbw:=below_grownFrom (B:=b0+2) hg (fun r e=>by have:=(hr r e).1; omega) h4;exact ⟨h1.next hbw (by omega),own_lower h2 (fun g e=>by have:=hvg g e; omega) hbw,⟨h3.nodup,fun D hD=>⟨(h3.at_ D hD).1,(hbw.block D (by have:=hDs D hD; omega)).trans (h3.at_ D hD).2⟩⟩,Nat.le_trans h4 hg.size⟩)
       (fun _=>fun _ _ _ _ h _ _=>h)
       (fun pre A' B' hs hab=>⟨hs.1.next hab.below (by omega),own_lower hs.2.1 (fun g e=>by have:=hvg g e; omega) hab.below,hs.2.2.1.keep hab.rec_,Nat.le_trans hs.2.2.2 hab.below.size⟩)
       ⟨hO3,hown3,hM3,by omega⟩
       (fun x a' _=>a'=⟨((.int .i64 n:Value)::.slice A l.length c::undef::undef::.slice none 0 0::.int .i64 0::.pointer (some ⟨M,0,none⟩)::.bool true::.pointer (some ⟨M+2,0,none⟩)::undef::u10::.slice va o.length vc::.int .i64 u::.int .i64 (x:Nat)::(.tuple #[.agg #[.int .i64 n,.slice (some ⟨N,0,none⟩) n n],.bool true]:Value)::.int .i64 n::.slice A l.length c::(.tuple #[.agg #[.int .i64 n,.slice (some ⟨N,0,none⟩) n n],.bool true]:Value)::.agg #[.int .i64 n,.slice (some ⟨N,0,none⟩) n n]::.bool true::.bool true::.bool false::.int .i64 n::.slice (some ⟨M+1,0,none⟩) n n::.slice A l.length c::.int .i64 l.length::.int .i64 k::.bool false::u28::u29::u30::u31::u32::u33::u34::u35::u36::u37::.slice va o.length vc::.int .i64 o.length::.int .i64 n::.bool true::.slice (some ⟨M+1,0,none⟩) n n::.int .i64 u::.int .i64 u::.bool false::.slice (some ⟨M+1,0,none⟩) n n::.int .i64 u::.pointer (some ⟨M+1,u,none⟩)::.agg #[.int .i64 n,.slice (some ⟨N,0,none⟩) n n]::.int .i64 u::.func (.func 75) #[] #[.pointer (some ⟨b0,0,none⟩),.pointer (some ⟨b0+1,0,none⟩)]::.int .i64 (x:Nat)::undef::undef::undef::undef::undef::undef::u59::u60::u61::u62::undef::[]).toArray,[]⟩) (fun _ _ _ _ _ hs _ _=>hs) ?assign ?body ?done ?stop
      case assign=>
       rintro lp pre x W K hJ hK';gi_wp2;exact hK' _ _ (KeepsFrom.refl _ _) (CellsKept.refl _ _ _) hJ rfl
      case stop=>rintro D c' pre W hD _ hno hK'; exact hno.elim
      case body=>
       rintro lp pre x a' W ⟨h1,h2,h3,h4⟩ rfl hpre;have hxe:(u,x)∈l:=mem_succs.1 (hpre.subset (by simp));have hxn:x<n:=(hr _ hxe).2
       have hpl:pre.length≤2000:=by
        have e1:=hpre.length_le;have e2:=succs_len l u;rw [List.length_append] at e1;omega
       have hcl:pre.count x≤2000:=Nat.le_trans List.count_le_length hpl
       have hob:(-1:Int)≤opOf l o x∧opOf l o x≤2000:=by
        have:=entr_le l o x;unfold opOf; split <;> omega
       have c0:=h1.row.cell hxn;have f0:=h1.row.frozen x;have o0:=h1.ob 0 _ rfl;have hx0:=zi x;have hx1:(x:Int)<(n:Int):=by omega
       obtain ⟨y,hy⟩:∃ y:Int,y=(if x=u then -1 else opOf l o x) - (pre.count x:Nat):=⟨_,rfl⟩
       rw [← hy] at c0;have hyb:-5000≤y∧y≤5000:=by rw [hy]; split <;> omega
       have hwy:IntKind.i64.wrap (y - 1)=y - 1:=by rw [IntKind.wrap_i64]; omega
       have HY:=hid hy;clear hy hob hcl;gi_wp2
       have hO2:=h1.set x (.int .i64 (y - 1)) (g:=fun v=>.int .i64 ((if v=u then -1 else opOf l o v) - ((pre++[x]).count v:Nat))) (fun v _=>by
        by_cases e:v=x
        ·subst e
         rw [if_pos rfl,HY.out,List.count_append,List.count_singleton_self];congr 1; omega
        ·have e2:List.count v [x]=0:=by rw [List.count_eq_zero]; simpa using e
         rw [if_neg e,List.count_append,e2]; rfl)
       refine ⟨(KeepsOthers.setCell _ _ _).from _,⟨by simp,fun k c e fr hk hc=>(heap_setCell_other _ _ _ _ (by show k≠M+1; omega)).trans hc⟩,hO2,own_set h2 (by omega) _ _,h3.row h1.row x _,by simpa using h4⟩
      case done=>
       rintro D ys W hD rfl ⟨h1,h2,h3,h4⟩ hKD;have hO5:=h1.congr (g:=fun v=>.int .i64 (opOf l (o++[u]) v)) (fun v _=>by rw [hK.op_push hu hu0 v]);have hM5:=h3.push (D:=D) (by omega) (fun hm=>by have:=hDs D hm; omega) hKD;have hzW:=hO5.size;have hpu:=(hK.push hu hu0).1;clear h1 h3 hKD;gi_wp2_with (gi_at_builtin; refine wpListIn_append_own _ rfl _ _ 27 rfl (M+3) 3 i0 (.int .i64 0) 1 8 Tryz.underlying27 hi hz0 hz1 hz2 rfl (by decide) _ _ _ rfl (h2.alloc _) ⟨W.heap.size,0,none⟩ 1 1 [.int .i64 u] rfl rfl (cell_one_new _ _ _) (by simp [Value.oneCell']) (by unfold maxLen; omega) (by omega) (by simp; omega) ?_; intro v6 W6 hown6 hgr6 _; obtain ⟨va6,vc6,rfl⟩:=own_form hown6);have hbA:=below_alloc W (.cells #[.int .i64 (u:Int)] 3);have hO6:=hO5.next hbA hzW;have hM6:=hM5.below hbA
       have hO7:Ord M n N l w (fun v=>.int .i64 (opOf l (o++[u]) v)) W6:=hO6.next (B:=M+3) (below_grownFrom hgr6 (fun r e=>((h2.alloc (.cells #[.int .i64 (u:Int)] 3)).lt r e).1) (by simp; omega)) (Nat.le_refl _)
       have hM7:Marks (M+3) (D::Ds) W6:=hM6.keep fun q ob ho hc=>(hgr6.block q (Array.getElem?_eq_some_iff.1 ho).1 (fun e=>by
        rcases (h2.alloc (.cells #[.int .i64 (u:Int)] 3)).2 with ⟨h9,-⟩ | ⟨g,cap,cur,h9,-,hg,-⟩
        ·rw [h9] at e; cases e
        ·rw [h9] at e; injection e with e; rw [e,hg] at ho; injection ho with ho; subst ho; cases hc)).trans ho
       have hown7:W6.ownsRow (M+3) 3 1 (.slice va6 (o.length+1) vc6) (o++[u]).length (natC (o++[u])):=by rw [List.length_append,natC_push]; exact hown6
       clear hO5 hO6 hM5 hM6 hown6 hgr6 h2 hbA;gi_wp2;exact ⟨⟨o++[u],_,D::Ds,_,_,_,_,_,_,_,_,_,_,_,_,_,_,_,_,_,_,_,rfl,hpu,by simp; omega,hO7,hown7,hM7⟩,by simp [slLen]; omega⟩
    ·have hd3:=Df (show ¬ (o.length:Int)<n by omega)
     have hd4:=Df hol;gi_wp2;have hon2:o.length=n:=by omega
     rw [hon2] at hown ⊢;exact leaves_marks Ds W hM (fun W' hT=>⟨_,results_tmp2 rfl _ _ _,_,0,rfl,hO.below.trans ((hT.below hM).mono (by have:=hO.lo; omega)),.inl ⟨rfl,o,hK.topo (by omega),own_base (hT.own hM hown) (by have:=hO.lo; omega)⟩⟩)
end Go.Proofs.YtkpjdanfpolimaaGreat
