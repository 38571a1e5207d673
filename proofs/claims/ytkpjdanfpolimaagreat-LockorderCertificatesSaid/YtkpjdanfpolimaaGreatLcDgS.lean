/- slices.Equal of edges, the reference's SameInts and SameLists, walked where both sides rea · The reference's Graph and Held, walked. Conditions: the program lies in memory, its number · The reference's Check, Has and reached of graphs, walk -/
import Derived.Test.YtkpjdanfpolimaaGreatLcDg9
import Derived.Test.YtkpjdanfpolimaaGreatLcDg8
import Derived.Test.YtkpjdanfpolimaaGreatLcRaZ
import Derived.Test.YtkpjdanfpolimaaGreatLcRchk
import Derived.Maps.AppendAt
import Derived.Laws.OwnMore
import Derived.Deep.LoopGhost
import Derived.Test.YtkpjdanfpolimaaGreatLcDg5
import Derived.Test.YtkpjdanfpolimaaGreatLcRaW
set_option maxRecDepth 100000
set_option maxHeartbeats 6400000
namespace Go.Proofs.YtkpjdanfpolimaaGreat
section
open Go.RowKit Go.Shelf
theorem run_neq_ed (a b c d:Int) (W:World):(binOp .neq 47 (.agg #[.int .i64 a,.int .i64 b]) (.agg #[.int .i64 c,.int .i64 d])).run Tryz.prog W=.ok (.bool (!edB a b c d)) W:=by
 rw [run_neq_struct];unfold edB;by_cases h:a=c
 ·by_cases g:b=d <;> simp [go_sem,h,g]
 ·simp [go_sem,h]
attribute [local go_sem ↓] run_neq_ed
theorem edEqual_same (A1:Option Addr) (c1:Nat) (A2:Option Addr) (c2:Nat) (l:List (Nat × Nat)) (hl:l.length≤2000) (w:World) (h1:Eds w w.heap.size A1 l) (h2:Eds w w.heap.size A2 l) :
  Calls Tryz.prog 23 #[.slice A1 l.length c1,.slice A2 l.length c2] w (Ret (.bool true) w):=by
 have e0:((l.length:Int) != (l.length:Int))=false:=by simp
 go_enter Tryz.func23,Tryz.ntmps23;go_upto_region 4 with fail;go_loopw [5,13] (fun _ i wr=>∃ k:Nat,i=.int .i64 (k:Nat)∧k≤l.length∧Below w.heap.size w wr) (fun _ i _=>l.length - (intOf i).toNat)
 case atStart=>exact ⟨0,rfl,by omega,Below.refl _ _⟩
 case round=>
  obtain ⟨k,rfl,hk,hb⟩:=hrel;have hk0:=zi k;have hwr:=Wi k (by omega);by_cases hlt:k<l.length
  ·have hd1:=Dt (show (k:Int)<l.length by omega)
   have hd2:=Dt hlt;have hjl:(k:Int)<(l.length:Int):=by omega
   obtain ⟨b,off,rfl,-,p1,p2⟩:=(h1.below hb).at_ hlt;obtain ⟨b',off',rfl,-,q1,q2⟩:=(h2.below hb).at_ hlt;generalize l[k]=x at p1 p2 q1 q2;obtain ⟨a1,a2⟩:=x;dsimp only at p1 p2 q1 q2;have hcb:edB a1 a2 a1 a2=true:=by unfold edB; simp
   go_wp2_with fail;go_quiet (fail);go_wp2_with fail;go_round
   case rel=>exact ⟨k+1,rfl,by omega,hb.trans (below_drews _ _ _)⟩
   case measure=>exact ms (by omega)
  ·have hd1:=Df (show ¬ (k:Int)<l.length by omega)
   have hd2:=Df hlt;go_wp2_with fail;go_ret;exact ⟨rfl,hb⟩
theorem sameInts_same (A1:Option Addr) (c1:Nat) (A2:Option Addr) (c2:Nat) (l:List Nat) (hl:l.length≤2000) (w:World) (h1:Nts w w.heap.size A1 l) (h2:Nts w w.heap.size A2 l) :
  Calls Tryz.prog 41 #[.slice A1 l.length c1,.slice A2 l.length c2] w (Ret (.bool true) w):=by
 have e0:((l.length:Int) != (l.length:Int))=false:=by simp
 go_enter Tryz.func41,Tryz.ntmps41;go_upto_region 4 with fail;go_loopw [5] (fun i wr=>∃ k:Nat,i=.int .i64 (k:Nat)∧k≤l.length∧Below w.heap.size w wr) (fun i _=>l.length - (intOf i).toNat)
 case atStart=>exact ⟨0,rfl,by omega,Below.refl _ _⟩
 case round=>
  obtain ⟨k,rfl,hk,hb⟩:=hrel;have hk0:=zi k;have hwr:=Wi k (by omega);by_cases hlt:k<l.length
  ·have hd1:=Dt (show (k:Int)<l.length by omega)
   have hd2:=Dt hlt;have hjl:(k:Int)<(l.length:Int):=by omega
   obtain ⟨b,off,rfl,-,p1⟩:=(h1.below' hb (Nat.le_refl _)).at_ hlt;obtain ⟨b',off',rfl,-,q1⟩:=(h2.below' hb (Nat.le_refl _)).at_ hlt;generalize l[k]=x at p1 q1;have hcb:((x:Int) != (x:Int))=false:=by simp
   go_wp2_with fail;go_quiet (fail);go_wp2_with fail;go_round
   case rel=>exact ⟨k+1,rfl,by omega,hb.trans (below_drews _ _ _)⟩
   case measure=>exact ms (by omega)
  ·have hd1:=Df (show ¬ (k:Int)<l.length by omega)
   have hd2:=Df hlt;go_wp2_with fail;go_ret;exact ⟨rfl,hb⟩
def NLs (W:World) (B:Nat) (A:Option Addr) (ls:List (List Nat)):Prop:=∃ vs:List Value,Rd W B 1 A ls.length vs∧∀ (i:Nat) (c:List Nat),ls[i]? = some c→∃ A' cap,vs[i]? = some (Value.slice A' c.length cap)∧Nts W B A' c
theorem NLs.below' {W W':World} {B C:Nat} {A:Option Addr} {ls:List (List Nat)} (h:NLs W B A ls) (hb:Below C W W') (hB:B≤C):NLs W' B A ls:=by
 obtain ⟨vs,h1,h2⟩:=h;refine ⟨vs,h1.below' hb hB,fun i c hc=>?_⟩;obtain ⟨A',cap,k1,k2⟩:=h2 i c hc;exact ⟨A',cap,k1,k2.below' hb hB⟩
theorem NLs.more {W:World} {B C:Nat} {A:Option Addr} {ls:List (List Nat)} (h:NLs W B A ls) (hB:B≤C):NLs W C A ls:=by
 obtain ⟨vs,h1,h2⟩:=h;refine ⟨vs,Rd.more h1 hB,fun i c hc=>?_⟩;obtain ⟨A',cap,k1,k2⟩:=h2 i c hc;exact ⟨A',cap,k1,Rd.more k2 hB⟩
theorem OwnLL.nls {W:World} {base:Nat} {v:Value} {ls:List (List Nat)} (h:OwnLL W base v ls):∃ A c,v=.slice A ls.length c∧NLs W W.heap.size A ls:=by
 obtain ⟨vs,h1,h2⟩:=h;obtain ⟨A,c,rfl⟩:=own_form h1;refine ⟨A,c,rfl,vs,Rd.of_own h1,fun i cl hc=>?_⟩;obtain ⟨g,cap,k1,k2,k3,k4,k5⟩:=h2 i cl hc
 exact ⟨_,cap,k1,by simp [natC],.inr ⟨g,0,rfl,k3,fun j u hu=>by
  have hj:j<cl.length:=by have:=(List.getElem?_eq_some_iff.1 hu).1; simpa [natC] using this
  have e:u=.int .i64 cl[j]:=by simpa [natC,hj] using hu.symm
  rw [e,Nat.zero_add]; exact k5 j hj⟩⟩
theorem sameLists_same (A1:Option Addr) (c1:Nat) (A2:Option Addr) (c2:Nat) (ls:List (List Nat)) (hl:ls.length≤2000) (hc:∀ c∈ls,c.length≤2000) (w:World) (h1:NLs w w.heap.size A1 ls) (h2:NLs w w.heap.size A2 ls) :
  Calls Tryz.prog 16 #[.slice A1 ls.length c1,.slice A2 ls.length c2] w (Ret (.bool true) w):=by
 have e0:((ls.length:Int) != (ls.length:Int))=false:=by simp
 go_enter Tryz.func16,Tryz.ntmps16;go_upto_region 4 with fail;go_loopw [5] (fun i wr=>∃ k:Nat,i=.int .i64 (k:Nat)∧k≤ls.length∧Below w.heap.size w wr) (fun i _=>ls.length - (intOf i).toNat)
 case atStart=>exact ⟨0,rfl,by omega,Below.refl _ _⟩
 case round=>
  obtain ⟨k,rfl,hk,hb⟩:=hrel;have hk0:=zi k;have hwr:=Wi k (by omega);by_cases hlt:k<ls.length
  ·have hd1:=Dt (show (k:Int)<ls.length by omega)
   have hd2:=Dt hlt;have hjl:(k:Int)<(ls.length:Int):=by omega
   obtain ⟨vs1,r1,s1⟩:=h1.below' hb (Nat.le_refl _);obtain ⟨vs2,r2,s2⟩:=h2.below' hb (Nat.le_refl _);obtain ⟨b,off,rfl,-,p1⟩:=r1.addr (by omega);obtain ⟨b',off',rfl,-,p2⟩:=r2.addr (by omega);obtain ⟨B1,k1,t1,n1⟩:=s1 k _ (List.getElem?_eq_getElem hlt);obtain ⟨B2,k2,t2,n2⟩:=s2 k _ (List.getElem?_eq_getElem hlt);have x1:=p1 k _ t1;have x2:=p2 k _ t2;have HSI:=hid (sameInts_same B1 k1 B2 k2 ls[k] (hc _ (List.getElem_mem hlt)) wr.drew (Rd.more n1 hb.size) (Rd.more n2 hb.size));clear r1 s1 r2 s2 p1 p2 t1 t2 n1 n2;generalize ls[k].length=m at x1 x2 HSI;go_wp2_with fail;go_still_tail 8,(by kernel_rfl)
   change wpList _ _ _ _ _ wr.drew;have hb2:=hb.drew;clear x1 x2 hb;generalize wr.drew=wd at HSI hb2 ⊢;go_wp2_with fail;refine HSI.out.mono ?_;rintro e w5 ⟨rfl,hb5⟩;have hb6:=hb2.trans (hb5.mono hb2.size);clear hb2 hb5 HSI;go_wp2_with fail;go_round
   case rel=>exact ⟨k+1,rfl,by omega,hb6⟩
   case measure=>exact ms (by omega)
  ·have hd1:=Df (show ¬ (k:Int)<ls.length by omega)
   have hd2:=Df hlt;go_wp2_with fail;go_ret;exact ⟨rfl,hb⟩
end
section
open Go.RowKit Go.Shelf
def InnerOk (W:World) (base:Nat) (own:Option Nat) (v:Value) (c:List Nat):Prop:=
 (v=.slice none 0 0∧c=[])∨∃ g cap,v=.slice (some ⟨g,0,none⟩) c.length cap∧base≤g∧g<W.heap.size∧own≠some g∧∀ k (hk:k<c.length),W.cell? ⟨g,k,none⟩=some (.int .i64 c[k])
theorem InnerOk.keep {W W':World} {base:Nat} {own:Option Nat} {v:Value} {c:List Nat} (h:InnerOk W base own v c) (hk:∀ k,base≤k→k<W.heap.size→own≠some k→W'.heap[k]? = W.heap[k]?) (hz:W.heap.size≤W'.heap.size):InnerOk W' base own v c:=by
 rcases h with h | ⟨g,cap,h1,h2,h3,h4,h5⟩
 ·exact .inl h
 ·exact .inr ⟨g,cap,h1,h2,by omega,h4,fun k hk'=>(World.cell?_of_block (hk g h2 h3 h4)).trans (h5 k hk')⟩
theorem InnerOk.of_own {W:World} {base:Nat} {v:Value} {c:List Nat} (h:OwnI W base v (nats c)):InnerOk W base none v c:=by
 have hnl:(nats c).length=c.length:=by simp [nats]
 have h1:W.ownsRow base 3 1 v (nats c).length (i64s (nats c)):=h;rw [hnl] at h1;rcases h1.2 with ⟨rfl,h0⟩ | ⟨g,cap,cur,rfl,hgb,hgh,-⟩
 ·exact .inl ⟨rfl,List.eq_nil_of_length_eq_zero h0⟩
 ·refine .inr ⟨g,cap,rfl,hgb,(h1.lt g rfl).2,nofun,fun k hk=>?_⟩
  rw [h1.cellAt k (by omega)];simp [i64s,nats,hk]
theorem InnerOk.nts {W:World} {base:Nat} {own:Option Nat} {v:Value} {c:List Nat} (h:InnerOk W base own v c):∃ A cap,v=.slice A c.length cap∧Nts W W.heap.size A c:=by
 rcases h with ⟨rfl,rfl⟩ | ⟨g,cap,rfl,h2,h3,h4,h5⟩
 ·exact ⟨none,0,rfl,by simp [natC],.inl rfl⟩
 ·exact ⟨_,cap,rfl,by simp [natC],.inr ⟨g,0,rfl,h3,fun j u hu=>by
   have hj:j<c.length:=by have:=(List.getElem?_eq_some_iff.1 hu).1; simpa [natC] using this
   have e:u=.int .i64 c[j]:=by simpa [natC,hj] using hu.symm
   rw [e,Nat.zero_add]; exact h5 j hj⟩⟩
def OwnLN (W:World) (base:Nat) (v:Value) (ls:List (List Nat)):Prop:=∃ vs:List Value,W.ownsRow base 27 1 v ls.length vs∧∀ (i:Nat) (c:List Nat),ls[i]? = some c→∃ u,vs[i]? = some u∧InnerOk W base v.ownBlock u c
theorem OwnLN.nls {W:World} {base:Nat} {v:Value} {ls:List (List Nat)} (h:OwnLN W base v ls):∃ A c,v=.slice A ls.length c∧NLs W W.heap.size A ls:=by
 obtain ⟨vs,h1,h2⟩:=h;obtain ⟨A,c,rfl⟩:=own_form h1;refine ⟨A,c,rfl,vs,Rd.of_own h1,fun i cl hc=>?_⟩;obtain ⟨u,k1,k2⟩:=h2 i cl hc;obtain ⟨A',cap,rfl,k3⟩:=k2.nts;exact ⟨A',cap,k1,k3⟩
theorem OwnLN.keep {W W':World} {base:Nat} {v:Value} {ls:List (List Nat)} (h:OwnLN W base v ls) (hk:∀ k,base≤k→k<W.heap.size→W'.heap[k]? = W.heap[k]?) (hz:W.heap.size≤W'.heap.size):OwnLN W' base v ls:=by
 obtain ⟨vs,h1,h2⟩:=h;refine ⟨vs,own_blocks h1 hk,fun i c hc=>?_⟩;obtain ⟨u,k1,k2⟩:=h2 i c hc;exact ⟨u,k1,k2.keep (fun k a b _=>hk k a b) hz⟩
theorem OwnLN.below {W W':World} {base:Nat} {v:Value} {ls:List (List Nat)} (h:OwnLN W base v ls) (hb:Below W.heap.size W W'):OwnLN W' base v ls:=h.keep (fun k _ hk=>hb.block k hk) hb.size
theorem OwnLN.push {W1 W3:World} {base:Nat} {v v':Value} {ls:List (List Nat)} {vs:List Value} {c:List Nat} {u:Value} (h1:W1.ownsRow base 27 1 v ls.length vs)
  (h2:∀ (i:Nat) (c:List Nat),ls[i]? = some c→∃ u,vs[i]? = some u∧InnerOk W1 base v.ownBlock u c)
  (ho:W3.ownsRow base 27 1 v' (ls.length+1) (vs++[u])) (hg:W1.grownBy W3 v.ownBlock) (hv:v'.ownBlock=v.ownBlock∨v'.ownBlock=some W1.heap.size) (hu:InnerOk W1 base v.ownBlock u c):OwnLN W3 base v' (ls++[c]):=by
 have hnew:∀ {u c},InnerOk W1 base v.ownBlock u c→InnerOk W3 base v'.ownBlock u c:=fun {u c} h=>by
  rcases h with h | ⟨g,cap,k1,k2,k3,k4,k5⟩
  ·exact .inl h
  ·refine .inr ⟨g,cap,k1,k2,Nat.lt_of_lt_of_le k3 hg.size,fun e=>?_,fun k hk=>hg.cell (k5 k hk) (fun z=>k4 z.symm)⟩
   rcases hv with hv | hv
   ·exact k4 (hv ▸ e)
   ·rw [hv] at e; injection e with e; omega
 have hvl:vs.length=ls.length:=by have:=h1.1; omega
 refine ⟨_,by rw [List.length_append]; exact ho,fun i c' hc'=>?_⟩;by_cases e:i<ls.length
 ·rw [List.getElem?_append_left e] at hc'
  obtain ⟨u',k1,k2⟩:=h2 i c' hc';exact ⟨u',by rw [List.getElem?_append_left (by omega)]; exact k1,hnew k2⟩
 ·rw [List.getElem?_append_right (by omega)] at hc'
  have hi:i - ls.length=0:=by
   have:=(List.getElem?_eq_some_iff.1 hc').1;simp at this; omega
  rw [hi] at hc';have hcc:c=c':=by simpa using hc'
  subst hcc;exact ⟨u,by rw [List.getElem?_append_right (by omega),hvl,hi]; rfl,hnew hu⟩
theorem nls_nil (W:World) (B:Nat) (A:Option Addr):NLs W B A []:=⟨[],⟨rfl,.inl rfl⟩,fun i c hc=>by simp at hc⟩
theorem eds_nil (W:World) (B:Nat) (A:Option Addr):Eds W B A []:=⟨rfl,.inl rfl⟩
def GraphR (p:Prg) (w:World):Ending→World→Prop:=fun e W=>∃ (l:List (Nat × Nat)) (A:Option Addr) (c:Nat) (er:Int),e=.returned (.tuple #[.slice A l.length c,.int .i64 er])∧Eds W W.heap.size A l∧Below w.heap.size w W∧(prgOk p→er=0∧l=graphOf p)∧(¬ prgOk p→er=1∧l=[])
theorem rgraph_any (p:Prg) (w:World) (h:Lies w w.heap.size p):Calls Tryz.prog 20 #[p.val] w (GraphR p w):=by
 have HCH:=hid (fun (W:World) (hb:Below w.heap.size w W)=>refCheck_any p W (h.next hb));have HGO:=hid (fun (hv:prgOk p) (W:World) (hb:Below w.heap.size w W)=>rgraphOf_any p hv W (h.next hb));obtain ⟨V,hV⟩:∃ V,V=prgOk p:=⟨_,rfl⟩
 unfold GraphR;rw [← hV] at HCH HGO ⊢;clear hV h;unfold Prg.val at HCH HGO ⊢;have hT:=one_new w #[.slice p.funA p.funs.length p.funC,.slice p.obA p.obs.length p.obC,.slice p.vrA p.vrs.length p.vrC] 26;go_enter Tryz.func20,Tryz.ntmps20;go_upto_region 1 with fail;generalize w.alloc _=W1 at hT ⊢;obtain ⟨x0,x1,x2⟩:=bx3 hT.fst;go_wp2_with fail;refine (HCH.out _ hT.below).mono ?_;rintro e W2 ⟨n,rfl,hn,hb2⟩;have HN:=hid hn;have hT2:=hT.next hb2;clear hT hn x0 x1 x2;obtain ⟨x0,x1,x2⟩:=bx3 hT2.fst;by_cases hn0:n=0
 ·subst hn0
  have HY:=hid (HN.out.1 rfl);have HG1:=hid (HGO.out HY.out W2 hT2.below);clear HN HGO;go_wp2_with fail;refine HG1.out.mono ?_;rintro e W3 ⟨v,rfl,hE,hb3⟩;obtain ⟨A,c,rfl,hE6⟩:=own_eds hE;have hT3:=hT2.next hb3;go_wp2_with fail;go_ret2;exact ⟨_,A,c,0,rfl,hE6,hT3.below,fun _=>⟨rfl,rfl⟩,fun z=>absurd HY.out z⟩
 ·have en:(n != 0)=true:=by simpa using hn0
  have HNO:=hid (show ¬ V from fun v=>hn0 (HN.out.2 v));clear HN hn0;go_wp2_with fail;have hba:=below_alloc W2 (.cells #[] 47);have hT3:=hT2.next hba;go_ret2;exact ⟨[],some ⟨W2.heap.size,0,none⟩,0,1,rfl,eds_nil _ _ _,hT3.below,fun v=>absurd v HNO.out,fun _=>⟨rfl,rfl⟩⟩
end
section
open Go.RowKit Go.Shelf
theorem gchk_ok (n:Nat) (A:Option Addr) (c:Nat) (l:List (Nat × Nat)) (hn:n≤200) (hl:l.length≤2000) (hr:EdR n l) (hs:Strict l) (w:World) (h:Eds w w.heap.size A l) :
  Calls Tryz.prog 60 #[.int .i64 n,.slice A l.length c] w (Ret (.int .i64 0) w):=by
 have hn0:=zi n;have hd1:=Df (show ¬ (n:Int)<0 by omega);have hd2:=Df (show ¬ (200:Int)<n by omega);have hd2b:=Df (show ¬ (200<n) by omega);have hd3:=Df (show ¬ (2000:Int)<l.length by omega);have hd3b:=Df (show ¬ (2000<l.length) by omega);go_enter Tryz.func60,Tryz.ntmps60;go_upto_region 6 with fail;go_loopw [5] (fun i wr=>∃ k:Nat,i=.int .i64 k∧k≤l.length∧Below w.heap.size w wr) (fun i _=>l.length - (intOf i).toNat)
 case atStart=>exact ⟨0,rfl,by omega,Below.refl _ _⟩
 case round=>
  obtain ⟨k,rfl,hk,hb⟩:=hrel;have hk0:=zi k;have hwr:=Wi k (by omega);by_cases hlt:k<l.length
  ·obtain ⟨b,off,rfl,had,h1,h2⟩:=(h.below hb).at_ hlt
   obtain ⟨r1,r2⟩:=hr _ (List.getElem_mem hlt);have hkl:(k:Int)<(l.length:Int):=by omega
   have hd4:=Dt (show (k:Int)<l.length by omega);have hd4b:=Dt hlt;by_cases h0:k=0
   ·have hd9:=Df (show ¬ (0:Int)<k by omega)
    have hd10:=Df (show ¬ (0<k) by omega);generalize l[k]=x at h1 h2 r1 r2;have hd5:=Df (show ¬ (((x.1:Nat):Int)<0) by omega);have hd6:=Df (show ¬ ((n:Int)≤((x.1:Nat):Int)) by omega);have hd6b:=Df (show ¬ (n≤x.1) by omega);have hd7:=Df (show ¬ (((x.2:Nat):Int)<0) by omega);have hd8:=Df (show ¬ ((n:Int)≤((x.2:Nat):Int)) by omega);have hd8b:=Df (show ¬ (n≤x.2) by omega);clear h0;go_wp2_with fail;go_quiet (fail);go_wp2_with fail;go_round
    case rel=>exact ⟨k+1,rfl,by omega,hb.trans (below_drews _ _ _)⟩
    case measure=>exact ms (by omega)
   ·obtain ⟨j,rfl⟩:∃ j,k=j+1:=⟨k - 1,by omega⟩
    have hd9:=Dt (show (0:Int)<((j+1:Nat):Int) by omega);have hd10:=Dt (show (0:Int)<(j:Int)+1 by omega);have hd11:=Dt (show 0<j+1 by omega);have hwk:IntKind.i64.wrap (j:Int)=(j:Int):=by rw [IntKind.wrap_i64]; omega
    have hwj:IntKind.i64.wrap (((j+1:Nat):Int) - 1)=(j:Int):=by rw [IntKind.wrap_i64]; omega
    have hj0:=zi j;have hjl:(j:Int)<(l.length:Int):=by omega
    obtain ⟨b',off',e',-,p1,p2⟩:=(h.below hb).at_ (show j<l.length by omega);injection e' with e';injection e' with e1 e2;subst e1; subst e2;obtain ⟨q1,q2⟩:=hr _ (List.getElem_mem (show j<l.length by omega));have hst:=hs.at_ hlt;generalize l[j+1]=x at h1 h2 r1 r2 hst;generalize l[j]=z at p1 p2 q1 q2 hst;have hd5:=Df (show ¬ (((x.1:Nat):Int)<0) by omega);have hd6:=Df (show ¬ ((n:Int)≤((x.1:Nat):Int)) by omega);have hd6b:=Df (show ¬ (n≤x.1) by omega);have hd7:=Df (show ¬ (((x.2:Nat):Int)<0) by omega);have hd8:=Df (show ¬ ((n:Int)≤((x.2:Nat):Int)) by omega);have hd8b:=Df (show ¬ (n≤x.2) by omega);have g1:=Df (show ¬ (((x.1:Nat):Int)<((z.1:Nat):Int)) by omega);have g1b:=Df (show ¬ (x.1<z.1) by omega);clear h0;by_cases he:x.1=z.1
    ·have g2:(((x.1:Nat):Int) == ((z.1:Nat):Int))=true:=by simp [he]
     have g2b:(x.1 == z.1)=true:=by simp [he]
     have g3:=Df (show ¬ (((x.2:Nat):Int)≤((z.2:Nat):Int)) by omega);have g3b:=Df (show ¬ (x.2≤z.2) by omega);clear he hst;go_wp2_with fail;go_quiet (fail);go_wp2_with fail;go_round
     case rel=>exact ⟨j+1+1,rfl,by omega,hb.trans (below_drews _ _ _)⟩
     case measure=>show l.length - (intOf (Value.int IntKind.i64 ((j:Int)+1+1))).toNat<l.length - (intOf (Value.int IntKind.i64 ((j:Int)+1))).toNat; simp only [intOf]; omega
    ·have g2:(((x.1:Nat):Int) == ((z.1:Nat):Int))=false:=by simp; omega
     have g2b:(x.1 == z.1)=false:=by simpa using he
     clear he hst;go_wp2_with fail;go_quiet (fail);go_wp2_with fail;go_round
     case rel=>exact ⟨j+1+1,rfl,by omega,hb.trans (below_drews _ _ _)⟩
     case measure=>show l.length - (intOf (Value.int IntKind.i64 ((j:Int)+1+1))).toNat<l.length - (intOf (Value.int IntKind.i64 ((j:Int)+1))).toNat; simp only [intOf]; omega
  ·have hd4:=Df (show ¬ (k:Int)<l.length by omega)
   have hd4b:=Df hlt;go_wp2_with fail;go_ret;exact ⟨rfl,hb⟩
theorem ghas_any (A:Option Addr) (c:Nat) (l:List (Nat × Nat)) (hl:l.length≤2000) (u v:Nat) (w:World) (h:Eds w w.heap.size A l) :
  Calls Tryz.prog 40 #[.slice A l.length c,.int .i64 u,.int .i64 v] w (Ret (.bool (decide ((u,v)∈l))) w):=by
 go_enter Tryz.func40,Tryz.ntmps40;go_upto_region 2 with fail;go_loopw [7] (fun i wr=>∃ k:Nat,i=.int .i64 k∧k≤l.length∧(∀ i (hi:i<l.length),i<k→l[i]≠(u,v))∧Below w.heap.size w wr) (fun i _=>l.length - (intOf i).toNat)
 case atStart=>exact ⟨0,rfl,by omega,fun i _ hi=>by omega,Below.refl _ _⟩
 case round=>
  obtain ⟨k,rfl,hk,hno,hb⟩:=hrel;have hk0:=zi k;have hwr:=Wi k (by omega);have HNO:=hid hno;clear hno;by_cases hlt:k<l.length
  ·obtain ⟨b,off,rfl,-,h1,h2⟩:=(h.below hb).at_ hlt
   have hkl:(k:Int)<(l.length:Int):=by omega
   have hd4:=Dt (show (k:Int)<l.length by omega);have hd4b:=Dt hlt;have HM:=hid (List.getElem_mem hlt)
   have HN2:Hid (l[k]≠(u,v)→∀ i (hi:i<l.length),i<k+1→l[i]≠(u,v)):=hid (fun hh i hi hik=>by
    by_cases e:i=k
    ·subst e; exact hh
    ·exact HNO.out i hi (by omega))
   generalize l[k]=x at h1 h2 HM HN2;obtain ⟨a,d⟩:=x;dsimp only at h1 h2;by_cases ha:a=u
   ·subst ha
    by_cases hd:d=v
    ·subst hd
     have HY:=hid (show decide ((a,d)∈l)=true from decide_eq_true HM.out);have g1:((a:Int) == (a:Int))=true:=by simp
     have g2:((d:Int) == (d:Int))=true:=by simp
     go_wp2_with fail;go_ret;exact ⟨by rw [HY.out]; rfl,hb⟩
    ·have g1:((a:Int) == (a:Int))=true:=by simp
     have g2:((d:Int) == (v:Int))=false:=by simp; omega
     have g2b:(d == v)=false:=by simpa using hd
     have HN3:=hid (HN2.out (fun e=>by injection e with e1 e2; exact hd e2));clear hd;go_wp2_with fail;go_round
     case rel=>exact ⟨k+1,rfl,by omega,HN3.out,hb⟩
     case measure=>exact ms (by omega)
   ·have g1:((a:Int) == (u:Int))=false:=by simp; omega
    have g1b:(a == u)=false:=by simpa using ha
    have HN3:=hid (HN2.out (fun e=>by injection e with e1 e2; exact ha e1));clear ha;go_wp2_with fail;go_round
    case rel=>exact ⟨k+1,rfl,by omega,HN3.out,hb⟩
    case measure=>exact ms (by omega)
  ·have hd4:=Df (show ¬ (k:Int)<l.length by omega)
   have hd4b:=Df hlt
   have HN:=hid (show decide ((u,v)∈l)=false from decide_eq_false (fun hm=>by
    obtain ⟨i,hi,e⟩:=List.getElem_of_mem hm;exact HNO.out i hi (by omega) e))
   go_wp2_with fail;go_ret;exact ⟨by rw [HN.out]; rfl,hb⟩
def ReachR (n:Nat) (l:List (Nat × Nat)) (u:Nat) (w:World):Ending→World→Prop:=fun e W=>∃ (T:Nat) (d:Nat→Bool),e=.returned (.slice (some ⟨T,0,none⟩) n n)∧W.rowIs T 4 n (fun v=>.bool (d v))∧(∀ v,v<n→(d v=true↔Way l u v))∧w.heap.size≤T∧Below w.heap.size w W
def ShutTo (l:List (Nat × Nat)) (d:Nat→Bool) (j:Nat):Prop:=∀ i (hi:i<l.length),i<j→d l[i].1=true→d l[i].2=true
theorem shut_way {l:List (Nat × Nat)} {d:Nat→Bool} (h:ShutTo l d l.length) {u v:Nat} (hu:d u=true) (k:Way l u v):d v=true:=by
 induction k with
 | refl=>exact hu
 | step k e ih=>
  obtain ⟨i,hi,e2⟩:=List.getElem_of_mem e;have:=h i hi hi (by rw [e2]; exact ih);rw [e2] at this;exact this
theorem greach_any (n:Nat) (A:Option Addr) (c:Nat) (l:List (Nat × Nat)) (hn:n≤200) (hl:l.length≤2000) (hr:EdR n l) (u:Nat) (hu:u<n) (w:World) (h:Eds w w.heap.size A l) :
  Calls Tryz.prog 61 #[.int .i64 n,.slice A l.length c,.int .i64 u] w (ReachR n l u w):=by
 have hmk:=fun W=>run_make_row' (P:=Tryz.prog) 82 4 (.bool false) 1 Tryz.underlying82 (by kernel_rfl) rfl .i64 .i64 n (by omega) (by omega) W
 have hn0:=zi n;have hu0:=zi u;have hu1:(u:Int)<(n:Int):=by omega
 go_enter Tryz.func61,Tryz.ntmps61;go_upto_region 2 with fail;have hro:=(World.rowIs_made w (.bool false) n 4)
 have hba:=below_alloc w (.cells (madeCells #[.bool false] n) 4);have hzw:w.heap.size<(w.alloc (.cells (madeCells #[.bool false] n) 4)).heap.size:=by simp
 clear hmk;generalize w.alloc _=w1 at hro hba hzw ⊢;have cu:=World.rowIs.cell hro hu;have fu:=World.rowIs.frozen hro u;go_upto_region 3 with fail
 have hr2:(w1.setCell ⟨w.heap.size,u,none⟩ (.bool true)).rowIs w.heap.size 4 n (fun v=>.bool (decide (v=u))):=(World.rowIs.set hro u (.bool true)).congr (fun i _=>by
  by_cases e:i=u
  ·simp [e]
  ·simp [e])
 have hb2:Below w.heap.size w (w1.setCell ⟨w.heap.size,u,none⟩ (.bool true)):=hba.setCell (p:=⟨w.heap.size,u,none⟩) (Nat.le_refl _) _;clear hro hba cu fu hzw;generalize w1.setCell _ _=w2 at hr2 hb2 ⊢;go_upto_region 4 with fail;go_loopg [8] (2 * blind n (fun v=>decide (v=u))+1) (fun g v wr=>∃ (d:Nat→Bool) (ag:Bool),v=.bool ag∧g=2 * blind n d+(if ag then 1 else 0)∧wr.rowIs w.heap.size 4 n (fun v=>.bool (d v))∧Below w.heap.size w wr∧d u=true∧(∀ v,d v=true→Way l u v)∧(ag=false→ShutTo l d l.length))
 case atStart=>
  refine ⟨_,true,rfl,rfl,hr2,hb2,by simp,fun v hv=>?_,fun e=>(by cases e)⟩;have hv:v=u:=by simpa using hv
  rw [hv];exact .refl _
 case round=>
  clear hr2 hb2;obtain ⟨d0,ag,rfl,hgk,hro,hb,hdu,hway,hsh⟩:=hrel
  cases ag with
  | false=>
   have HD:=hid (show ∀ v,v<n→(d0 v=true↔Way l u v) from fun v _=>⟨hway v,shut_way (hsh rfl) hdu⟩);clear hway hsh hgk hdu;go_wp2_with fail;go_ret;exact ⟨_,d0,rfl,hro,HD.out,Nat.le_refl _,hb⟩
  | true=>
   have hgk:gk=2 * blind n d0+1:=hgk;have HGK:=hid hgk;clear hgk hsh;have HDU:=hid hdu;have HWA:=hid hway;clear hdu hway;go_upto_region 7 with fail;go_loopw [8,9] (fun v i wr=>∃ (d:Nat→Bool) (ag:Bool) (j:Nat),v=.bool ag∧i=.int .i64 j∧j≤l.length∧wr.rowIs w.heap.size 4 n (fun v=>.bool (d v))∧Below w.heap.size w wr∧Hid (d u=true∧(∀ v,d v=true→Way l u v)∧(ag=false→d=d0∧ShutTo l d0 j)∧(ag=true→blind n d<blind n d0))) (fun _ i _=>l.length - (intOf i).toNat)
   case atStart=>exact ⟨d0,false,0,rfl,rfl,by omega,hro,hb,hid ⟨HDU.out,HWA.out,fun _=>⟨rfl,fun i _ hi=>by omega⟩,fun e=>by cases e⟩⟩
   case round=>
    clear hro hb;obtain ⟨d,ag,j,rfl,rfl,hj,hro,hb,HI⟩:=hrel;have hj0:=zi j;have hwr1:=Wi j (by omega);by_cases hlt:j<l.length
    ·obtain ⟨b,off,rfl,hbw,h1,h2⟩:=(h.below hb).at_ hlt
     obtain ⟨r1,r2⟩:=hr _ (List.getElem_mem hlt);have hjl:(j:Int)<(l.length:Int):=by omega
     have hd1:=Dt (show (j:Int)<l.length by omega);have hd2:=Dt hlt;have HM:=hid (List.getElem_mem hlt)
     have HS:Hid ((d l[j].1=true→d l[j].2=true)→(ag=false→d=d0∧ShutTo l d0 j)→(ag=false→d=d0∧ShutTo l d0 (j+1))):=hid (fun hh h2 e=>⟨(h2 e).1,fun i hi hij=>by
      by_cases z:i=j
      ·subst z; rw [← (h2 e).1]; exact hh
      ·exact (h2 e).2 i hi (by omega)⟩)
     generalize l[j]=x at h1 h2 r1 r2 HM HS;obtain ⟨a,t⟩:=x;dsimp only at h1 h2 r1 r2 HS;have ca:=World.rowIs.cell hro r1;have ct:=World.rowIs.cell hro r2;have ft:=World.rowIs.frozen hro t;have ha0:=zi a;have ha1:(a:Int)<(n:Int):=by omega
     have ht0:=zi t;have ht1:(t:Int)<(n:Int):=by omega
     cases hda:d a with
     | false=>
      rw [hda] at ca;have HI2:Hid (d u=true∧(∀ v,d v=true→Way l u v)∧(ag=false→d=d0∧ShutTo l d0 (j+1))∧(ag=true→blind n d<blind n d0)):=hid ⟨HI.out.1,HI.out.2.1,HS.out (fun z=>by rw [hda] at z; cases z) HI.out.2.2.1,HI.out.2.2.2⟩;clear hda ct;go_wp2_with fail;go_round
      case rel=>exact ⟨d,ag,j+1,rfl,rfl,by omega,hro,hb,HI2⟩
      case measure=>exact ms (by omega)
     | true=>
      rw [hda] at ca
      cases hdt:d t with
      | true=>
       rw [hdt] at ct;have HI2:Hid (d u=true∧(∀ v,d v=true→Way l u v)∧(ag=false→d=d0∧ShutTo l d0 (j+1))∧(ag=true→blind n d<blind n d0)):=hid ⟨HI.out.1,HI.out.2.1,HS.out (fun _=>hdt) HI.out.2.2.1,HI.out.2.2.2⟩;clear hda hdt;go_wp2_with fail;go_round
       case rel=>exact ⟨d,ag,j+1,rfl,rfl,by omega,hro,hb,HI2⟩
       case measure=>exact ms (by omega)
      | false=>
       rw [hdt] at ct
       have hr3:(wr.setCell ⟨w.heap.size,t,none⟩ (.bool true)).rowIs w.heap.size 4 n (fun v=>.bool (if v=t then true else d v)):=(World.rowIs.set hro t (.bool true)).congr (fun i _=>by
        by_cases e:i=t
        ·simp [e]
        ·simp [e])
       have HR3:=hid hr3;have HB3:=hid (show Below w.heap.size w (wr.setCell ⟨w.heap.size,t,none⟩ (.bool true)) from hb.setCell (p:=⟨w.heap.size,t,none⟩) (Nat.le_refl _) _);have i1:(if u=t then true else d u)=true:=by split <;> first | rfl | exact HI.out.1
       have i2:∀ v,(if v=t then true else d v)=true→Way l u v:=fun v hv=>by
        by_cases e:v=t
        ·subst e; exact (HI.out.2.1 a hda).step HM.out
        ·rw [if_neg e] at hv; exact HI.out.2.1 v hv
       have i4:blind n (fun v=>if v=t then true else d v)<blind n d0:=by
        have h5:=blind_lt r2 hdt
        cases ag with
        | false=>rw [(HI.out.2.2.1 rfl).1] at h5; rw [(HI.out.2.2.1 rfl).1]; exact h5
        | true=>have:=HI.out.2.2.2 rfl; omega
       have HI2:Hid ((if u=t then true else d u)=true∧(∀ v,(if v=t then true else d v)=true→Way l u v)∧(true=false→(fun v=>if v=t then true else d v)=d0∧ShutTo l d0 (j+1))∧(true=true→blind n (fun v=>if v=t then true else d v)<blind n d0)):=hid ⟨i1,i2,nofun,fun _=>i4⟩;clear i1 i2 i4;clear hda hdt hr3 HI hro;go_wp2_with fail;go_round
       case rel=>exact ⟨_,true,j+1,rfl,rfl,by omega,HR3.out,HB3.out,HI2⟩
       case measure=>exact ms (by omega)
    ·have hd1:=Df (show ¬ (j:Int)<l.length by omega)
     have hd2:=Df hlt;have HJ:=hid (show j=l.length by omega);go_wp2_with fail;go_roundg (2 * blind n d+(if ag then 1 else 0))
     case measure=>
      rw [HGK.out]
      cases ag with
      | false=>rw [(HI.out.2.2.1 rfl).1]; simp
      | true=>have:=HI.out.2.2.2 rfl; simp; omega
     case rel=>exact ⟨d,ag,rfl,rfl,hro,hb,HI.out.1,HI.out.2.1,fun e=>by rw [(HI.out.2.2.1 e).1,← HJ.out]; exact (HI.out.2.2.1 e).2⟩
end
section
open Go.RowKit Go.Shelf
def GOrdR (n:Nat) (l:List (Nat × Nat)) (w:World):Ending→World→Prop:=fun e W=>∃ (v:Value) (c:Int),e=.returned (.tuple #[v,.int .i64 c])∧Below w.heap.size w W ∧
 ((c=0∧∃ o,Topo n l o∧W.ownsRow w.heap.size 3 1 v n (natC o))∨(c=21∧Stuck n l))
def freeTo (l:List (Nat × Nat)) (out:List Nat) (v k:Nat):Bool:=!decide (v∈out) && (l.take k).all (fun e=>e.2 != v || decide (e.1∈out))
theorem freeTo_succ (l:List (Nat × Nat)) (out:List Nat) (v:Nat) {k:Nat} (hk:k<l.length):freeTo l out v (k+1)=(freeTo l out v k && (l[k].2 != v || decide (l[k].1∈out))):=by
 unfold freeTo;rw [take_one _ _ hk,List.all_append,Bool.and_assoc];simp
theorem free_op (l:List (Nat × Nat)) (out:List Nat) (v:Nat):freeTo l out v l.length=true↔opOf l out v=0:=by
 unfold freeTo opOf;rw [List.take_length,Bool.and_eq_true];by_cases h:v∈out
 ·rw [if_pos h]; simp [h]
 ·rw [if_neg h]
  constructor
  ·rintro ⟨-,h2⟩
   refine Classical.byContradiction fun hne=>?_
   obtain ⟨u,hu,hno⟩:=entr_pos (l:=l) (out:=out) (v:=v) (fun z=>hne (by rw [z]; rfl));have:=List.all_eq_true.1 h2 _ hu;simp [hno] at this
  ·intro h2
   have h3:entr l out v=0:=by omega
   refine ⟨by simp [h],List.all_eq_true.2 fun e he=>?_⟩;by_cases e2:e.2=v
   ·have:=entr_zero h3 (u:=e.1) (by rw [← e2]; exact he)
    simp [this]
   ·simp [e2]
theorem gorder_any (n:Nat) (A:Option Addr) (c:Nat) (l:List (Nat × Nat)) (hn:n≤200) (hl:l.length≤2000) (hr:EdR n l) (hs:Strict l) (w:World) (h:Eds w w.heap.size A l) :
  Calls Tryz.prog 57 #[.int .i64 n,.slice A l.length c] w (GOrdR n l w):=by
 obtain ⟨i0,hi,hz⟩:=Option.map_eq_some_iff.1 i64info;have hz0:i0.zero=some (.int .i64 0):=congrArg (fun t=>t.1) hz;have hz1:i0.size=1:=congrArg (fun t=>t.2.1) hz;have hz2:i0.bytes=8:=congrArg (fun t=>t.2.2) hz;clear hz;have HCK:=hid (gchk_ok n A c l hn hl hr hs w h);have HED:=hid (fun (W:World) (hb:Below w.heap.size w W) (k:Nat) (hk:k<l.length)=>(h.below hb).at_ hk);have hmk:=fun W=>run_make_row' (P:=Tryz.prog) 82 4 (.bool false) 1 Tryz.underlying82 (by kernel_rfl) rfl .i64 .i64 n (by omega) (by omega) W
 have hn0:=zi n;clear h;go_enter Tryz.func57,Tryz.ntmps57;go_upto_region 1 with fail;go_wp2_with fail;refine HCK.out.mono ?_;rintro e w1 ⟨rfl,hb1⟩;go_upto_region 5 with fail;have hO0:=ownI_lit w1;have hro:=World.rowIs_made (w1.alloc (.cells #[] 3)) (.bool false) n 4;have hba:=(below_alloc w1 (.cells #[] 3)).trans ((below_alloc (w1.alloc (.cells #[] 3)) (.cells (madeCells #[.bool false] n) 4)).mono (by simp));have hO1:OwnI ((w1.alloc (.cells #[] 3)).alloc (.cells (madeCells #[.bool false] n) 4)) w1.heap.size (.slice (some ⟨w1.heap.size,0,none⟩) 0 0) (nats []):=World.ownsRow.alloc hO0 _;have hzD:w1.heap.size+1<((w1.alloc (.cells #[] 3)).alloc (.cells (madeCells #[.bool false] n) 4)).heap.size:=by simp
 rw [World.size_alloc] at hro;have hbw:=hb1.trans (hba.mono hb1.size);have hz1w:=hb1.size;clear hmk hO0 hba hb1;generalize World.alloc _ _=wa at hro hO1 hbw hzD ⊢
 have hob0:∀ g,(Value.slice (some ⟨w1.heap.size,0,none⟩) 0 0).ownBlock=some g→g≠w1.heap.size+1:=fun g e=>by
  have e:some w1.heap.size=some g:=e;injection e with e;omega
 generalize (Value.slice (some ⟨w1.heap.size,0,none⟩) 0 0)=u0 at hO1 hob0 ⊢;generalize w1.heap.size=B at hro hO1 hob0 hz1w hzD ⊢;rw [show B+1=B+1 from rfl] at *;go_loopg [6] n (fun g a wr=>∃ out:List Nat,g=n - out.length∧Kahn n l out∧OwnI wr B a (nats out)∧wr.rowIs (B+1) 4 n (fun v=>.bool (decide (v∈out)))∧Below w.heap.size w wr∧(∀ g,a.ownBlock=some g→g≠B+1))
 case atStart=>exact ⟨[],by simp,Kahn.nil n l,hO1,hro.congr (fun i _=>by simp),hbw,hob0⟩
 case round=>
  clear hO1 hro hbw hob0;obtain ⟨out,hgk,hK,hown,hro,hb,hob⟩:=hrel;have HGK:=hid hgk;have hol:=len_le hK.nodup hK.lt;have HK:=hid hK;have hnl:(nats out).length=out.length:=by simp [nats]
  obtain ⟨A0,c0,rfl⟩:=own_form hown;rw [hnl] at hown hob ⊢;have hown0:wr.ownsRow B 3 1 (.slice A0 out.length c0) out.length (i64s (nats out)):=by have:=hown; unfold OwnI at this; rwa [hnl] at this
  have HOW:=hid hown0;have HOB:=hid hob;clear hgk hK hown hown0 hob;by_cases hlt:out.length<n
  ·have hd1:=Dt (show (out.length:Int)<n by omega)
   have hd2:=Dt hlt;go_upto_region 8 with fail;go_loopw [8,9] (fun nx i wr2=>wr2=wr∧∃ j:Nat,i=.int .i64 j∧j≤n∧((nx=.int .i64 (-1)∧Hid (∀ v,v<j→opOf l out v≠0))∨∃ u:Nat,nx=.int .i64 u∧u<n∧Hid (opOf l out u=0))) (fun _ i _=>n - (intOf i).toNat)
   case atStart=>exact ⟨rfl,0,rfl,by omega,.inl ⟨rfl,hid (fun v hv=>by omega)⟩⟩
   case round=>
    obtain ⟨rfl,j,rfl,hj,hnx⟩:=hrel;have hj0:=zi j;have hwr1:=Wi j (by omega);rcases hnx with ⟨rfl,HNO⟩ | ⟨u,rfl,hun,HU⟩
    ·by_cases hjn:j<n
     ·have hd3:=Dt (show (j:Int)<n by omega)
      have hd4:=Dt hjn;have hjl:(j:Int)<(n:Int):=by omega
      have cj:=World.rowIs.cell hro hjn;have HF:=hid (fun k (hk:k<l.length)=>freeTo_succ l out j hk);have HF0:Hid ((!decide (j∈out))=freeTo l out j 0):=hid (by simp [freeTo]);generalize decide (j∈out)=bj at cj HF0;go_upto_region 12 with fail;rename_i K hK K2 hK2;have hl0:=zi (l.length);go_loopw [10,11] (fun fr i wr2=>wr2=wr∧∃ (k:Nat) (b:Bool),fr=.bool b∧i=.int .i64 k∧k≤l.length∧Hid (b=freeTo l out j k)) (fun _ i _=>l.length - (intOf i).toNat)
      case atStart=>exact ⟨rfl,0,_,rfl,rfl,by omega,HF0⟩
      case round=>
       obtain ⟨rfl,k,b,rfl,rfl,hk,HB⟩:=hrel;have hk0:=zi k;have hwr2:=Wi k (by omega);by_cases hkl:k<l.length
       ·have hd5:=Dt (show (k:Int)<l.length by omega)
        have hd6:=Dt hkl;have hkl2:(k:Int)<(l.length:Int):=by omega
        obtain ⟨eb,eo,rfl,-,h1,h2⟩:=HED.out _ hb k hkl;obtain ⟨r1,r2⟩:=hr _ (List.getElem_mem hkl);have HFK:=hid (HF.out k hkl);generalize l[k]=x at h1 h2 r1 r2 HFK;obtain ⟨a,t⟩:=x;dsimp only at h1 h2 r1 r2 HFK
        cases b with
        | false=>
         have HB2:Hid (false=freeTo l out j (k+1)):=hid (by rw [HFK.out,← HB.out]; rfl);clear HFK HB;go_wp2_with fail;go_round
         case rel=>exact ⟨by first | rfl | trivial,k+1,false,rfl,rfl,by omega,HB2⟩
         case measure=>exact ms (by omega)
        | true=>
         by_cases htj:t=j
         ·subst htj
          have g1:((t:Int) != (t:Int))=false:=by simp
          have ca:=World.rowIs.cell hro r1;have ha0:=zi a;have ha1:(a:Int)<(n:Int):=by omega
          have HB2:Hid (decide (a∈out)=freeTo l out t (k+1)):=hid (by rw [HFK.out,← HB.out]; simp);generalize decide (a∈out)=ba at ca HB2;clear HFK HB;go_wp2_with fail;go_round
          case rel=>exact ⟨by first | rfl | trivial,k+1,ba,rfl,rfl,by omega,HB2⟩
          case measure=>exact ms (by omega)
         ·have g1:((t:Int) != (j:Int))=true:=by simp; omega
          have g1b:(t != j)=true:=by simpa using htj
          have HB2:Hid (true=freeTo l out j (k+1)):=hid (by rw [HFK.out,← HB.out]; simp [g1b]);clear HFK HB htj;go_wp2_with fail;go_round
          case rel=>exact ⟨by first | rfl | trivial,k+1,true,rfl,rfl,by omega,HB2⟩
          case measure=>exact ms (by omega)
       ·have hd5:=Df (show ¬ (k:Int)<l.length by omega)
        have hd6:=Df hkl;have HKE:Hid (b=freeTo l out j l.length):=hid (by rw [HB.out,show k=l.length by omega])
        cases b with
        | true=>
         have HOP:=hid ((free_op l out j).1 HKE.out.symm);clear hk hkl HB HKE;go_wp2_with fail;go_round
         case rel=>exact ⟨by first | rfl | trivial,j+1,rfl,by omega,.inr ⟨j,rfl,hjn,HOP⟩⟩
         case measure=>exact ms (by omega)
        | false=>
         have HNO2:Hid (∀ v,v<j+1→opOf l out v≠0):=hid (fun v hv=>by
          by_cases e:v=j
          ·subst e; exact fun z=>by have:=(free_op l out v).2 z; rw [← HKE.out] at this; cases this
          ·exact HNO.out v (by omega))
         clear hk hkl HB HKE;go_wp2_with fail;go_round
         case rel=>exact ⟨by first | rfl | trivial,j+1,rfl,by omega,.inl ⟨rfl,HNO2⟩⟩
         case measure=>exact ms (by omega)
     ·have hd3:=Df (show ¬ (j:Int)<n by omega)
      have hd4:=Df hjn;have HST:=hid (Kahn.stuck hr hlt (fun v hv=>HNO.out v (by omega)));clear hjn;go_wp2_with fail;go_ret2;exact ⟨_,21,rfl,hb.trans (below_alloc2 hb.size _),.inr ⟨rfl,HST.out⟩⟩
    ·have hu0:=zi u
     have hul:(u:Int)<(n:Int):=by omega
     have hd5:=Df (show ¬ (u:Int)<0 by omega);have hkp:=Kahn.push HK.out hun HU.out;have HKP:=hid hkp;have hown1:=World.ownsRow.alloc HOW.out (.cells #[.int .i64 (u:Int)] 3);have hba:=below_alloc wr (.cells #[.int .i64 (u:Int)] 3);have hmx:out.length+1≤maxLen:=by unfold maxLen; omega
     have hby:(out.length+1) * 8≤140737488355328:=by omega
     have hDz:B+1<wr.heap.size:=World.rowIs.lt hro;have hbs:B≤(wr.alloc (.cells #[.int .i64 (u:Int)] 3)).heap.size:=by simp; omega
     have HRO:Hid (∀ w3,(wr.alloc (.cells #[.int .i64 (u:Int)] 3)).grownBy w3 (Value.slice A0 out.length c0).ownBlock→w3.rowIs (B+1) 4 n (fun v=>.bool (decide (v∈out)))):=hid (fun w3 hg=>World.rowIs.of_block hro ((hg.block _ (by simp; omega) (fun e=>HOB.out _ e.symm rfl)).trans (hba.block _ hDz)));have HBL:Hid (∀ w3,(wr.alloc (.cells #[.int .i64 (u:Int)] 3)).grownBy w3 (Value.slice A0 out.length c0).ownBlock→Below w.heap.size w w3):=hid (fun w3 hg=>(hb.trans (hba.mono hb.size)).grown hg (by have:=hb.size; simp; omega) (fun g e=>by have:=(World.ownsRow.lt HOW.out g e).1; omega));have hnu:(!decide (u∈out))=true:=by simp [hkp.2]
     have hcu:decide (u∈out)=false:=by simp [hkp.2]
     have hfin:∀ (jv:Nat),jv≤n→True:=fun _ _=>trivial
     by_cases hjn:j<n
     ·have hd3:=Dt (show (j:Int)<n by omega)
      have hd4:=Dt hjn;clear hfin;go_wp2_with (at_builtin; refine wpList_append_own_at _ rfl (.tmp 71) (.tmp 73) _ rfl B 3 i0 (.int .i64 0) 1 8 Tryz.underlying27 hi hz0 hz1 hz2 rfl (by omega) _ _ _ rfl hown1 ⟨wr.heap.size,0,none⟩ 1 1 [.int .i64 (u:Int)] rfl rfl (cell_one_new _ _ _) (by simp [Value.oneCell']) hmx hby hbs ?_; intro v3 w3 hown3 hg3 _ hob3; have hro3:=HRO.out w3 hg3; have cD:=World.rowIs.cell hro3 hun; have fD:=World.rowIs.frozen hro3 u);have hb3:=HBL.out w3 hg3
      have hr4:(w3.setCell ⟨B+1,u,none⟩ (.bool true)).rowIs (B+1) 4 n (fun v=>.bool (decide (v∈out++[u]))):=(World.rowIs.set hro3 u (.bool true)).congr (fun i _=>by
       by_cases e:i=u
       ·simp [e]
       ·simp [e])
      have hl2:(nats (out++[u])).length=out.length+1:=by simp [nats]
      have hob4:∀ g,v3.ownBlock=some g→g≠B+1:=fun g e=>by
       rcases hob3 with z | z
       ·rw [z] at e; exact HOB.out g e
       ·rw [z] at e; injection e with e; simp at e; omega
      have hO4:OwnI (w3.setCell ⟨B+1,u,none⟩ (.bool true)) B v3 (nats (out++[u])):=own_set_far (ownI_of_eq hl2.symm (by simp [nats,i64s]) hown3) (fun g e=>hob4 g e) _ _;have hb4:Below w.heap.size w (w3.setCell ⟨B+1,u,none⟩ (.bool true)):=hb3.setCell (p:=⟨B+1,u,none⟩) (by show _≤B+1; omega) _;go_roundg (n - (out++[u]).length)
      case measure=>rw [HGK.out,List.length_append,List.length_singleton]; omega
      case rel=>exact ⟨out++[u],rfl,HKP.out.1,hO4,hr4,hb4,hob4⟩
     ·have hd3:=Df (show ¬ (j:Int)<n by omega)
      have hd4:=Df hjn;clear hfin;go_wp2_with (at_builtin; refine wpList_append_own_at _ rfl (.tmp 71) (.tmp 73) _ rfl B 3 i0 (.int .i64 0) 1 8 Tryz.underlying27 hi hz0 hz1 hz2 rfl (by omega) _ _ _ rfl hown1 ⟨wr.heap.size,0,none⟩ 1 1 [.int .i64 (u:Int)] rfl rfl (cell_one_new _ _ _) (by simp [Value.oneCell']) hmx hby hbs ?_; intro v3 w3 hown3 hg3 _ hob3; have hro3:=HRO.out w3 hg3; have cD:=World.rowIs.cell hro3 hun; have fD:=World.rowIs.frozen hro3 u);have hb3:=HBL.out w3 hg3
      have hr4:(w3.setCell ⟨B+1,u,none⟩ (.bool true)).rowIs (B+1) 4 n (fun v=>.bool (decide (v∈out++[u]))):=(World.rowIs.set hro3 u (.bool true)).congr (fun i _=>by
       by_cases e:i=u
       ·simp [e]
       ·simp [e])
      have hl2:(nats (out++[u])).length=out.length+1:=by simp [nats]
      have hob4:∀ g,v3.ownBlock=some g→g≠B+1:=fun g e=>by
       rcases hob3 with z | z
       ·rw [z] at e; exact HOB.out g e
       ·rw [z] at e; injection e with e; simp at e; omega
      have hO4:OwnI (w3.setCell ⟨B+1,u,none⟩ (.bool true)) B v3 (nats (out++[u])):=own_set_far (ownI_of_eq hl2.symm (by simp [nats,i64s]) hown3) (fun g e=>hob4 g e) _ _;have hb4:Below w.heap.size w (w3.setCell ⟨B+1,u,none⟩ (.bool true)):=hb3.setCell (p:=⟨B+1,u,none⟩) (by show _≤B+1; omega) _;go_roundg (n - (out++[u]).length)
      case measure=>rw [HGK.out,List.length_append,List.length_singleton]; omega
      case rel=>exact ⟨out++[u],rfl,HKP.out.1,hO4,hr4,hb4,hob4⟩
  ·have hd1:=Df (show ¬ (out.length:Int)<n by omega)
   have hd2:=Df hlt;have HT:=hid (HK.out.topo (by omega));have hol2:out.length=n:=by omega
   go_wp2_with fail;go_ret2;refine ⟨_,0,rfl,hb,.inl ⟨rfl,out,HT.out,?_⟩⟩;have h1:=World.ownsRow.mono HOW.out (base':=w.heap.size) (by omega);have e:i64s (nats out)=natC out:=by simp [i64s,nats,natC]
   rw [e] at h1;rw [← hol2];exact h1
end
end Go.Proofs.YtkpjdanfpolimaaGreat
