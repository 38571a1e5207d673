/- Edges and graphs in memory. No conditions. · The lock graph's edges: in range, strictly ascending, between locks. Conditions: the progr · digraph's less and Check, walked: a graph in order is valid. Conditions: the edges are in  -/
import Derived.Test.YtkpjdanfpolimaaGreatProg
import Derived.Test.YtkpjdanfpolimaaGreatLcBase
import Derived.Test.YtkpjdanfpolimaaGreatLcDgM
import Derived.Deep.OwnRows
import Derived.Test.YtkpjdanfpolimaaGreatLcGraph
import Derived.Deep.RegionWith
import Derived.BigQuiet
import Derived.Lib.Hide
import Derived.StillTailTactics
set_option maxRecDepth 100000
set_option maxHeartbeats 3200000
namespace Go.Proofs.YtkpjdanfpolimaaGreat
section
open Go.RowKit
def edC (l:List (Nat × Nat)):List Value:=l.flatMap fun c=>[.int .i64 c.1,.int .i64 c.2]
theorem edC_cons (c:Nat × Nat) (l:List (Nat × Nat)):edC (c::l)=.int .i64 c.1::.int .i64 c.2::edC l:=by simp [edC]
theorem edC_fst (l:List (Nat × Nat)) (k:Nat) (hk:k<l.length):(edC l)[k * 2]? = some (.int .i64 l[k].1):=by
 induction l generalizing k with
 | nil=>simp at hk
 | cons c l ih=>
  rw [edC_cons]
  cases k with
  | zero=>rfl
  | succ k=>rw [show (k+1) * 2=k * 2+1+1 from by omega]; simpa using ih k (by simpa using hk)
theorem edC_snd (l:List (Nat × Nat)) (k:Nat) (hk:k<l.length):(edC l)[k * 2+1]? = some (.int .i64 l[k].2):=by
 induction l generalizing k with
 | nil=>simp at hk
 | cons c l ih=>
  rw [edC_cons]
  cases k with
  | zero=>rfl
  | succ k=>rw [show (k+1) * 2+1=k * 2+1+1+1 from by omega]; simpa using ih k (by simpa using hk)
def Eds (w:World) (B:Nat) (A:Option Addr) (l:List (Nat × Nat)):Prop:=Rd w B 2 A l.length (edC l)
def natC (l:List Nat):List Value:=l.map (fun (v:Nat)=>Value.int .i64 (v:Int))
def Nts (w:World) (B:Nat) (A:Option Addr) (l:List Nat):Prop:=Rd w B 1 A l.length (natC l)
section
variable {w w':World} {B:Nat} {A:Option Addr} {l:List (Nat × Nat)}
theorem Eds.at_ (h:Eds w B A l) {k:Nat} (hk:k<l.length):∃ b off:Nat,A=some ⟨b,off,none⟩∧b<B∧w.cell? ⟨b,off+k * 2,none⟩=some (.int .i64 l[k].1)∧w.cell? ⟨b,off+k * 2+1,none⟩=some (.int .i64 l[k].2):=by
 obtain ⟨b,off,e,hb,hc⟩:=Rd.addr h (by omega);exact ⟨b,off,e,hb,hc _ _ (edC_fst l k hk),hc _ _ (edC_snd l k hk)⟩
theorem Eds.below (h:Eds w B A l) (hb:Below B w w'):Eds w' B A l:=Rd.below h hb
theorem Eds.below' {C:Nat} (h:Eds w B A l) (hb:Below C w w') (hC:B≤C):Eds w' B A l:=Rd.below' h hb hC
end
section
variable {w w':World} {B:Nat} {A:Option Addr} {l:List Nat}
theorem Nts.at_ (h:Nts w B A l) {k:Nat} (hk:k<l.length):∃ b off:Nat,A=some ⟨b,off,none⟩∧b<B∧w.cell? ⟨b,off+k,none⟩=some (.int .i64 l[k]):=by
 obtain ⟨b,off,e,hb,hc⟩:=Rd.addr h (by omega);exact ⟨b,off,e,hb,hc k _ (by simp [natC,hk])⟩
theorem Nts.below' {C:Nat} (h:Nts w B A l) (hb:Below C w w') (hC:B≤C):Nts w' B A l:=Rd.below' h hb hC
end
def Net (W:World) (B N n:Nat) (l:List (Nat × Nat)):Prop:=
 N<B∧∃ (rA:Nat→Option Addr) (rC:Nat→Nat),∀ u,u<n→W.cell? ⟨N,u,none⟩=some (.slice (rA u) (succs l u).length (rC u))∧Nts W B (rA u) (succs l u)
def netV (n N:Nat):Value:=.agg #[.int .i64 n,.slice (some ⟨N,0,none⟩) n n]
theorem Net.below' {W W':World} {B C N n:Nat} {l:List (Nat × Nat)} (h:Net W B N n l) (hb:Below C W W') (hC:B≤C):Net W' B N n l:=by
 obtain ⟨h1,rA,rC,h2⟩:=h;exact ⟨h1,rA,rC,fun u hu=>⟨(hb.cell (show N<C by omega)).trans (h2 u hu).1,(h2 u hu).2.below' hb hC⟩⟩
theorem Net.more {W:World} {B C N n:Nat} {l:List (Nat × Nat)} (h:Net W B N n l) (hC:B≤C):Net W C N n l:=by
 obtain ⟨h1,rA,rC,h2⟩:=h;exact ⟨by omega,rA,rC,fun u hu=>⟨(h2 u hu).1,Rd.more (h2 u hu).2 hC⟩⟩
def Strict (l:List (Nat × Nat)):Prop:=l.Pairwise (fun a b=>a.1<b.1∨(a.1=b.1∧a.2<b.2))
theorem Strict.at_ {l:List (Nat × Nat)} (h:Strict l) {k:Nat} (hk:k+1<l.length):l[k].1<l[k+1].1∨(l[k].1=l[k+1].1∧l[k].2<l[k+1].2):=
 List.pairwise_iff_getElem.1 h k (k+1) (by omega) hk (by omega)
end
section
open Go.RowKit
def isLock (p:Prg) (h:Nat):Prop:=∃ o,p.obs[h]? = some o∧(o.kind=1∨o.kind=2)
structure GoodT (p:Prg) (t:List BS):Prop where
 row:∀ h,Locks p (t.getD h 0)
 own:∀ h i,(t.getD h 0).getLsbD i=true→isLock p h
theorem GoodT.set {p:Prg} {t:List BS} (g:GoodT p t) {h:Nat} (hh:isLock p h) {b:BS} (hb:Locks p b):GoodT p (t.set h (t.getD h 0 ||| b)):=by
 have key:∀ k,(t.set h (t.getD h 0 ||| b)).getD k 0=t.getD k 0∨k=h∧(t.set h (t.getD h 0 ||| b)).getD k 0=t.getD h 0 ||| b:=fun k=>by
  simp only [List.getD_eq_getElem?_getD,List.getElem?_set];by_cases e:h=k
  ·subst e
   by_cases hl:h<t.length
   ·right; simp [hl]
   ·left; simp [hl]
  ·left; simp [e]
 constructor
 ·intro k
  rcases key k with e | ⟨-,e⟩ <;> rw [e]
  ·exact g.row k
  ·exact (g.row h).or hb
 ·intro k i hi
  rcases key k with e | ⟨e1,-⟩
  ·rw [e] at hi; exact g.own k i hi
  ·subst e1; exact hh
theorem GoodT.one {p:Prg} {t:List BS} (g:GoodT p t) (i:Ins) (l:Int) {h:Nat} (hh:isLock p h) (hl:isLock p l.toNat):GoodT p (toOne i l t h):=by
 unfold toOne;split
 ·exact g.set hh (Locks.bit hl)
 ·exact g
theorem GoodT.foldl {p:Prg} {α:Type} {step:List BS→α→List BS}:∀ (l:List α) (t:List BS),GoodT p t→(∀ (t:List BS) (x:α),x∈l→GoodT p t→GoodT p (step t x))→GoodT p (l.foldl step t)
 | [],_,h,_=>h
 | x::r,t,h,hs=>GoodT.foldl r _ (hs t x (by simp) h) (fun t y hy=>hs t y (by simp [hy]))
theorem GoodT.step {p:Prg} {s:S} (hW:Wf p) (hF:Fine p s) {t:List BS} (g:GoodT p t) {f k:Nat} (hf:f<p.funs.length) (hk:k<p.len f):GoodT p (toStep p s f t k):=by
 rw [toStep_eq];split
 ·exact g
 ·next l hl=>
  split
  ·exact g
  ·unfold oneTo
   exact GoodT.foldl _ _ g (fun t h hh g=>g.one _ _ (hF.get _ h (listM_lt (List.mem_of_mem_take hh)).2) (acq_idx (hW.ins f k hf hk) hl).2)
theorem funTo_good {p:Prg} {s:S} (hW:Wf p) (hF:Fine p s):GoodT p (funTo p s p.funs.length):=by
 unfold funTo;refine GoodT.foldl _ _ ⟨fun h=>?_,fun h i hi=>?_⟩ (fun t f hf g=>?_)
 ·have:(List.replicate p.obs.length (0:BS)).getD h 0=0:=by rw [List.getD_eq_getElem?_getD,List.getElem?_replicate]; split <;> rfl
  rw [this]; exact Locks.zero p
 ·have:(List.replicate p.obs.length (0:BS)).getD h 0=0:=by rw [List.getD_eq_getElem?_getD,List.getElem?_replicate]; split <;> rfl
  rw [this] at hi; simp at hi
 ·unfold rowTo
  exact GoodT.foldl _ _ g (fun t k hk g=>g.step hW hF (List.mem_range.1 hf) (List.mem_range.1 hk))
theorem mem_edgesTo {t:List BS} {n:Nat} {e:Nat × Nat}:e∈edgesTo t n↔e.1<n∧e.2∈listM (t.getD e.1 0):=by
 unfold edgesTo;simp only [List.mem_flatMap,List.mem_range,List.mem_map];constructor
 ·rintro ⟨h,h1,l,h2,rfl⟩; exact ⟨h1,h2⟩
 ·rintro ⟨h1,h2⟩; exact ⟨e.1,h1,e.2,h2,rfl⟩
theorem edgesTo_strict (t:List BS):∀ n,Strict (edgesTo t n)
 | 0=>List.Pairwise.nil
 | n+1=>by
  unfold Strict;rw [edgesTo_succ,List.pairwise_append];refine ⟨edgesTo_strict t n,?_,fun a ha b hb=>?_⟩
  ·rw [List.pairwise_map]
   exact (List.Pairwise.filter _ List.pairwise_lt_range).imp (fun h=>.inr ⟨rfl,h⟩)
  ·obtain ⟨l,-,rfl⟩:=List.mem_map.1 hb
   exact .inl (mem_edgesTo.1 ha).1
section
variable {p:Prg} (hW:Wf p)
include hW
theorem graph_locks {e:Nat × Nat} (he:e∈graphOf p):isLock p e.1∧isLock p e.2:=by
 rw [graphOf_eq] at he;obtain ⟨h1,h2⟩:=mem_edgesTo.1 he;have g:=funTo_good hW (analysis_fine hW);exact ⟨g.own _ _ (listM_lt h2).2,g.row _ _ (listM_lt h2).2⟩
theorem graph_range:EdR p.obs.length (graphOf p):=fun e he=>by
 obtain ⟨⟨o1,h1,-⟩,⟨o2,h2,-⟩⟩:=graph_locks hW he;exact ⟨(List.getElem?_eq_some_iff.1 h1).1,(List.getElem?_eq_some_iff.1 h2).1⟩
end
theorem graph_strict (p:Prg):Strict (graphOf p):=by rw [graphOf_eq]; exact edgesTo_strict _ _
theorem graph_len {p:Prg} (h:p.obs.length≤16):(graphOf p).length≤256:=by
 rw [graphOf_eq];exact Nat.le_trans (edgesTo_len _ _) (by omega)
end
section
open Go.RowKit
def edV (e:Nat × Nat):Value:=.agg #[.int .i64 e.1,.int .i64 e.2]
theorem bx_new2 (w:World) (a b:Value) (t:TypeId):(w.alloc (.cells #[a,b] t)).cell? ⟨w.heap.size,0,none⟩=some a∧(w.alloc (.cells #[a,b] t)).cell? ⟨w.heap.size,1,none⟩=some b:=by simp
theorem less_any (a b:Nat × Nat) (ha:a.1<200∧a.2<200) (hb:b.1<200∧b.2<200) (hs:a.1<b.1∨(a.1=b.1∧a.2<b.2)) (w:World) :
  Calls Tryz.prog 93 #[edV a,edV b] w fun e W=>∃ z:Int,z<0∧e=.returned (.int .i64 z)∧Below w.heap.size w W:=by
 obtain ⟨a1,a2⟩:=a;obtain ⟨b1,b2⟩:=b;dsimp only at ha hb hs;have hbb:=(below_alloc w (.cells #[.int .i64 a1,.int .i64 a2] 47)).trans (below_alloc2 (by simp) (.cells #[.int .i64 b1,.int .i64 b2] 47));unfold edV;by_cases h:a1=b1
 ·subst h
  have hd:((a1:Int) != (a1:Int))=false:=by simp
  have hw:IntKind.i64.wrap ((a2:Int) - b2)=(a2:Int) - b2:=by rw [IntKind.wrap_i64]; omega
  have hz:(a2:Int) - b2<0:=by omega
  go_enter Tryz.func93,Tryz.ntmps93;go_wp2_with fail;go_ret;exact ⟨_,hz,rfl,hbb⟩
 ·have hd:((a1:Int) != (b1:Int))=true:=by simp; omega
  have hw:IntKind.i64.wrap ((a1:Int) - b1)=(a1:Int) - b1:=by rw [IntKind.wrap_i64]; omega
  have hz:(a1:Int) - b1<0:=by omega
  go_enter Tryz.func93,Tryz.ntmps93;go_wp2_with fail;go_ret;exact ⟨_,hz,rfl,hbb⟩
theorem dgCheck_ok (n:Nat) (A:Option Addr) (c:Nat) (l:List (Nat × Nat)) (hn:n≤200) (hl:l.length≤2000) (hr:EdR n l) (hs:Strict l) (w:World) (h:Eds w w.heap.size A l) :
  Calls Tryz.prog 74 #[.int .i64 n,.slice A l.length c] w (Ret (.int .i64 0) w):=by
 have hn0:=zi n;have hd1:=Df (show ¬ (n:Int)<0 by omega);have hd2:=Df (show ¬ (200:Int)<n by omega);have hd3:=Df (show ¬ (2000:Int)<l.length by omega);go_enter Tryz.func74,Tryz.ntmps74;go_wp2_with fail;go_loopw [5,6,18] (fun _ _ i wr=>∃ k:Nat,i=.int .i64 k∧k≤l.length∧Below w.heap.size w wr) (fun _ _ i _=>l.length - (intOf i).toNat)
 case atStart=>exact ⟨0,rfl,by omega,Below.refl _ _⟩
 case round=>
  obtain ⟨k,rfl,hk,hb⟩:=hrel;have hsz:=hb.size;by_cases hlt:k<l.length
  ·obtain ⟨b,off,rfl,had,h1,h2⟩:=(h.below hb).at_ hlt
   obtain ⟨r1,r2⟩:=hr _ (List.getElem_mem hlt);have hwr:=Wi k (by omega);have hd4:=Dt (show (k:Int)<l.length by omega);have hd5:=Df (show ¬ (((l[k].1:Nat):Int)<0) by omega);have hd6:=Df (show ¬ ((n:Int)≤((l[k].1:Nat):Int)) by omega);have hd7:=Df (show ¬ (((l[k].2:Nat):Int)<0) by omega);have hd8:=Df (show ¬ ((n:Int)≤((l[k].2:Nat):Int)) by omega);by_cases h0:k=0
   ·have hd9:=Df (show ¬ (0:Int)<k by omega)
    have hd10:=Df (show ¬ (0<k) by omega);clear h0;go_wp2_with fail;go_quiet (fail);go_wp2_with fail;go_round
    case rel=>exact ⟨k+1,rfl,by omega,(hb.trans (below_alloc2 hsz _)).trans ⟨rfl,rfl,rfl,Nat.le_refl _,fun _ _=>rfl⟩⟩
    case measure=>exact ms (by omega)
   ·obtain ⟨j,rfl⟩:∃ j,k=j+1:=⟨k - 1,by omega⟩
    have hd9:=Dt (show (0:Int)<((j+1:Nat):Int) by omega);have hd10:=Dt (show (0:Int)<(j:Int)+1 by omega);have hd11:=Dt (show 0<j+1 by omega);have hwk:IntKind.i64.wrap (j:Int)=(j:Int):=by rw [IntKind.wrap_i64]; omega
    have hwj:IntKind.i64.wrap (((j+1:Nat):Int) - 1)=(j:Int):=by rw [IntKind.wrap_i64]; omega
    have hj0:=zi j;have hjl:(j:Int)<(l.length:Int):=by omega
    obtain ⟨b',off',e',-,p1,p2⟩:=(h.below hb).at_ (show j<l.length by omega);injection e' with e';injection e' with e1 e2;subst e1; subst e2;obtain ⟨q1,q2⟩:=hr _ (List.getElem_mem (show j<l.length by omega));have HLE:=hid (less_any l[j] l[j+1] ⟨by omega,by omega⟩ ⟨by omega,by omega⟩ (hs.at_ hlt));clear h0;go_wp2_with fail;have hbx:=bx_new2 wr (.int .i64 ((l[j+1].1:Nat):Int)) (.int .i64 ((l[j+1].2:Nat):Int)) 47;have hb1:=hb.trans (below_alloc2 hsz (.cells #[.int .i64 ((l[j+1].1:Nat):Int),.int .i64 ((l[j+1].2:Nat):Int)] 47));have p3:=((below_alloc wr (.cells #[.int .i64 ((l[j+1].1:Nat):Int),.int .i64 ((l[j+1].2:Nat):Int)] 47)).cell (block_lt_of_cell p1)).trans p1
    have p4:=((below_alloc wr (.cells #[.int .i64 ((l[j+1].1:Nat):Int),.int .i64 ((l[j+1].2:Nat):Int)] 47)).cell (block_lt_of_cell p2)).trans p2;have hz:=wr.size_alloc (.cells #[.int .i64 ((l[j+1].1:Nat):Int),.int .i64 ((l[j+1].2:Nat):Int)] 47);clear h1 h2 p1 p2 hb;generalize wr.alloc _=wa at hbx hb1 p3 p4 hz ⊢;generalize wr.heap.size=G at hbx hsz hz ⊢;obtain ⟨x0,x1⟩:=hbx;go_still_tail 9,(by kernel_rfl)
    change wpList _ _ _ _ _ wa.drew;have hb2:=hb1.drew;have hz2:wa.drew.heap.size=G+1:=hz;clear hb1 p3 p4 x0 x1 hz;generalize wa.drew=wd at hb2 hz2 ⊢;unfold edV at HLE;have hle:=hb2.size;go_wp2_with fail;refine (HLE.out wd).mono ?_;rintro e W2 ⟨z,hz0,rfl,hb3⟩;have hd12:=Df (show ¬ (0≤z) by omega);have hb4:=hb2.trans (hb3.mono hle);clear hb2 hb3 hle hz2;go_wp2_with fail;go_round
    case rel=>exact ⟨j+1+1,rfl,by omega,hb4⟩
    case measure=>show l.length - (intOf (Value.int IntKind.i64 ((j:Int)+1+1))).toNat<l.length - (intOf (Value.int IntKind.i64 ((j:Int)+1))).toNat; simp only [intOf]; omega
  ·go_wp2_with fail
   go_ret;exact ⟨rfl,hb⟩
end
end Go.Proofs.YtkpjdanfpolimaaGreat
