/- digraph's successors, walked: the order in which it yields. Conditions: the graph lies in  · What lies in memory while Order and Ranks count; the marks of ranges within loops. No cond -/
import Derived.Test.YtkpjdanfpolimaaGreatLcDg2
import Derived.Test.YtkpjdanfpolimaaGreatLcFrom
import Derived.Test.YtkpjdanfpolimaaGreatLcOpen
set_option maxRecDepth 100000
set_option maxHeartbeats 3200000
namespace Go.Proofs.YtkpjdanfpolimaaGreat
section
open Go.RowKit Go.Shelf
attribute [local go_sem] Oper.semAt_some
theorem Net.impl {W W':World} {B N n:Nat} {l:List (Nat × Nat)} (h:Net W B N n l) (hk:∀ (b o:Nat) (v:Value),b<B→W.cell? ⟨b,o,none⟩=some v→W'.cell? ⟨b,o,none⟩=some v):Net W' B N n l:=by
 obtain ⟨h1,rA,rC,h2⟩:=h;exact ⟨h1,rA,rC,fun u hu=>⟨hk _ _ _ h1 (h2 u hu).1,Rd.impl (h2 u hu).2 hk⟩⟩
structure SMem (lo n N:Nat) (l:List (Nat × Nat)) (b0 u:Nat) (W:World):Prop where
 net:Net W lo N n l
 gb:Bx W b0 [.int .i64 n,.slice (some ⟨N,0,none⟩) n n]
 ub:Bx W (b0+1) [.int .i64 u]
theorem SMem.kept {lo hi n N b0 u:Nat} {l:List (Nat × Nat)} {W W':World} (h:SMem lo n N l b0 u W) (hk:CellsKept lo hi W W') (hb:hi≤b0):SMem lo n N l b0 u W':=
 ⟨h.net.impl fun _ _ _ hb' hc=>hk.cell (.inl hb') hc,fun j v hv=>hk.cell (.inr hb) (h.gb j v hv),fun j v hv=>hk.cell (.inr (by omega)) (h.ub j v hv)⟩
theorem SMem.below {lo n N b0 u B:Nat} {l:List (Nat × Nat)} {W W':World} (h:SMem lo n N l b0 u W) (hb:Below B W W') (hB:b0+2≤B) (hlo:lo≤B):SMem lo n N l b0 u W':=
 ⟨h.net.below' hb hlo,h.gb.below hb (by omega),h.ub.below hb (by omega)⟩
theorem succ1_in (m:Nat) (hm1:1≤m) (lY:Nat) (lo hi n N:Nat) (l:List (Nat × Nat)) (b0 u:Nat) (hu:u<n) (hl:l.length≤2000)
  (J Jx:List Nat→World→Prop)
  (hY:∀ (pre:List Nat) (x:Nat) (W:World),J pre W→pre++[x] <+: succs l u→YieldAt Fence.wide (m - 1) Tryz.prog lY #[.int .i64 x] W fun e W'=>
   (e=.returned (.bool true)∧J (pre++[x]) W'∧CellsKept lo hi W W')∨(e=.returned (.bool false)∧Jx (pre++[x]) W'))
  (W:World) (hm:SMem lo n N l b0 u W) (h0:J [] W) :
  CallsIn Fence.wide m Tryz.prog 75 #[.func (.yield lY) #[] #[],.pointer (some ⟨b0,0,none⟩),.pointer (some ⟨b0+1,0,none⟩)] W fun e W'=>(∃ v,e=.returned v) ∧
   ((∃ ys,ys=succs l u∧J ys W')∨(∃ pre,True∧Jx pre W')):=by
 obtain ⟨rA,rC,hrow⟩:=hm.net.2;obtain ⟨c0,hn0⟩:=hrow u hu;have x0:=hm.gb 0 _ rfl;have x1:=hm.gb 1 _ rfl;have y0:=hm.ub 0 _ rfl;have hu0:=zi u;have hu1:(u:Int)<(n:Int):=by omega
 have hll:=succs_len l u;have hNN:=hm.net.1;refine callsIn_of_wp Tryz.func75 rfl trivial ?_ rfl;simp only [Tryz.ntmps75,List.size_toArray,List.length_cons,List.length_nil,Nat.reduceAdd,Nat.reduceSub,Array.replicate_succ,Array.replicate_zero,List.push_toArray,List.append_toArray,List.nil_append,List.cons_append];generalize hls:succs l u=ls at c0 hn0 hll hY ⊢;generalize rA u=A at c0 hn0;clear hrow hm hls;gi_wp2;gi_loopw [5,12] (fun _ j wr=>∃ k:Nat,j=.int .i64 (k:Nat)∧k≤ls.length∧J (ls.take k) wr∧Nts wr lo A ls) (fun _ j _=>ls.length - (intOf j).toNat)
 case atStart=>exact ⟨0,rfl,by omega,h0,hn0⟩
 case round=>
  clear x0 x1 y0 c0 hn0 h0;obtain ⟨k,rfl,hk,hj,hn⟩:=hrel;have hk0:=zi k;have hwr:=Wi k (by omega);by_cases hlt:k<ls.length
  ·have hd1:=Dt (show (k:Int)<ls.length by omega)
   have hd2:=Dt hlt;have hjl:(k:Int)<(ls.length:Int):=by omega
   obtain ⟨b,off,hA,hbl,hc⟩:=hn.at_ hlt;have HN:=hid hn;clear hn;subst hA;have HTK:=hid (show ls.take (k+1)=ls.take k++[ls[k]] by rw [List.take_add_one,List.getElem?_eq_getElem hlt]; rfl);obtain ⟨fn,tmps,assign,body,hy2,hR2⟩:=hY (ls.take k) ls[k] wr hj (by rw [← HTK.out]; exact List.take_prefix _ _);gi_wp2;refine hR2.mono ?_;rintro e W3 (⟨rfl,hJ3,hk3⟩ | ⟨rfl,hJx3⟩)
   ·have hn3:Nts W3 lo (some ⟨b,off,none⟩) ls:=Rd.impl HN.out (fun _ _ _ hb' hc=>hk3.cell (.inl hb') hc)
    gi_wp2;exact ⟨⟨k+1,rfl,by omega,by rw [HTK.out]; exact hJ3,hn3⟩,by simp [intOf]; omega⟩
   ·gi_wp2
    refine bodyPost_ret (results_none rfl _ _ _) rfl ?_;exact ⟨⟨_,rfl⟩,.inr ⟨_,trivial,hJx3⟩⟩
  ·have hd1:=Df (show ¬ (k:Int)<ls.length by omega)
   have hd2:=Df hlt;have hj2:J ls wr:=by rw [List.take_of_length_le (by omega)] at hj; exact hj
   gi_wp2;go_end0;exact ⟨⟨_,rfl⟩,.inl ⟨_,rfl,hj2⟩⟩
theorem succ_stops (m:Nat) (hm1:1≤m) (lo hi n N:Nat) (l:List (Nat × Nat)) (b0 u:Nat) (hlb:lo≤b0) (hu:u<n) (hl:l.length≤2000) (w:World) (hm:SMem lo n N l b0 u w) (hb:b0+2≤w.heap.size) :
  SeqAc Fence.wide m Tryz.prog 75 #[.pointer (some ⟨b0,0,none⟩),.pointer (some ⟨b0+1,0,none⟩)] (fun x:Nat=>#[.int .i64 x]) (ItAb (b0+2)) (CellsKept lo hi) (fun ys=>ys=succs l u) (fun _=>True) (fun pre x=>pre++[x] <+: succs l u) w:=fun lY J Jx W hW _ hY h0=>
 succ1_in m hm1 lY lo hi n N l b0 u hu hl J Jx hY W (hm.below hW hb (by omega)) h0
def succObjs (n N u:Nat) (w:World):World:=(w.alloc (.cells #[.int .i64 n,.slice (some ⟨N,0,none⟩) n n] 98)).alloc (.cells #[.int .i64 u] 3)
theorem succObjs_below (n N u:Nat) (w:World):Below w.heap.size w (succObjs n N u w):=(below_alloc _ _).trans (below_alloc2 (by simp) _)
theorem succObjs_size (n N u:Nat) (w:World):(succObjs n N u w).heap.size=w.heap.size+2:=by simp [succObjs]
theorem succObjs_mem (lo n N u:Nat) (l:List (Nat × Nat)) (w:World) (h:Net w lo N n l) (hlo:lo≤w.heap.size):SMem lo n N l w.heap.size u (succObjs n N u w):=by
 have h3:=two_new w #[.int .i64 n,.slice (some ⟨N,0,none⟩) n n] #[.int .i64 u] 98 3;exact ⟨h.below' (succObjs_below n N u w) hlo,h3.fst,h3.snd⟩
def succVal (b0:Nat):Value:=.func (.func 75) #[] #[.pointer (some ⟨b0,0,none⟩),.pointer (some ⟨b0+1,0,none⟩)]
theorem succ_any (n N u:Nat) (w:World) :
  Calls Tryz.prog 54 #[netV n N,.int .i64 u] w fun e W=>e=.returned (succVal w.heap.size)∧W=succObjs n N u w:=by
 unfold netV;go_enter Tryz.func54,Tryz.ntmps54;go_wp2_with fail;go_ret;exact ⟨rfl,rfl⟩
end
section
open Go.RowKit Go.Shelf
structure Ord (M n N:Nat) (l:List (Nat × Nat)) (w:World) (f:Nat→Value) (W:World):Prop where
 net:Net W M N n l
 gb:Bx W M [.int .i64 n,.slice (some ⟨N,0,none⟩) n n]
 row:W.rowIs (M+1) 3 n f
 ob:Bx W (M+2) [.slice (some ⟨M+1,0,none⟩) n n]
 below:Below w.heap.size w W
 lo:w.heap.size≤M
 size:M+3≤W.heap.size
theorem Ord.next {M n N B:Nat} {l:List (Nat × Nat)} {w W W':World} {f:Nat→Value} (h:Ord M n N l w f W) (hb:Below B W W') (hB:M+3≤B):Ord M n N l w f W':=
 ⟨h.net.below' hb (by omega),h.gb.below hb (by omega),h.row.of_block (hb.block _ (by omega)),h.ob.below hb (by omega),h.below.trans (hb.mono (by have:=h.lo; omega)),h.lo,Nat.le_trans h.size hb.size⟩
theorem Ord.set {M n N:Nat} {l:List (Nat × Nat)} {w W:World} {f g:Nat→Value} (h:Ord M n N l w f W) (x:Nat) (v:Value) (hg:∀ i,i<n→(if i=x then v else f i)=g i):Ord M n N l w g (W.setCell ⟨M+1,x,none⟩ v):=
 have hb:Below (M+1) W (W.setCell ⟨M+1,x,none⟩ v):=(Below.refl _ _).setCell (p:=⟨M+1,x,none⟩) (Nat.le_refl _) _
 ⟨h.net.below' hb (by omega),h.gb.below hb (by omega),(h.row.set x v).congr hg,fun j u hu=>(World.cell?_setCell_far _ _ _ _ (by show M+1≠M+2; omega)).trans (h.ob j u hu),h.below.setCell (p:=⟨M+1,x,none⟩) (by show w.heap.size≤M+1; have:=h.lo; omega) _,h.lo,by simpa using h.size⟩
theorem Ord.congr {M n N:Nat} {l:List (Nat × Nat)} {w W:World} {f g:Nat→Value} (h:Ord M n N l w f W) (hg:∀ i,i<n→f i=g i):Ord M n N l w g W:=
 ⟨h.net,h.gb,h.row.congr hg,h.ob,h.below,h.lo,h.size⟩
theorem ord_new {n:Nat} {l:List (Nat × Nat)} {w w1:World} (N:Nat) (hN:Net w1 w1.heap.size N n l) (hb1:Below w.heap.size w w1) :
  Ord w1.heap.size n N l w (fun _=>.int .i64 0) (((w1.alloc (.cells #[.int .i64 n,.slice (some ⟨N,0,none⟩) n n] 98)).alloc (.cells (madeCells #[.int .i64 0] n) 3)).alloc (.cells #[.slice (some ⟨w1.heap.size+1,0,none⟩) n n] 27)) ∧
  Below w1.heap.size w1 (((w1.alloc (.cells #[.int .i64 n,.slice (some ⟨N,0,none⟩) n n] 98)).alloc (.cells (madeCells #[.int .i64 0] n) 3)).alloc (.cells #[.slice (some ⟨w1.heap.size+1,0,none⟩) n n] 27)):=by
 have hba:=below_alloc w1 (.cells #[.int .i64 n,.slice (some ⟨N,0,none⟩) n n] 98);have hga:=bx_new w1 #[.int .i64 n,.slice (some ⟨N,0,none⟩) n n] 98;have hza:(w1.alloc (.cells #[.int .i64 n,.slice (some ⟨N,0,none⟩) n n] 98)).heap.size=w1.heap.size+1:=by simp
 have hrb:=World.rowIs_made (w1.alloc (.cells #[.int .i64 n,.slice (some ⟨N,0,none⟩) n n] 98)) (.int .i64 0) n 3;have hbb:=below_alloc (w1.alloc (.cells #[.int .i64 n,.slice (some ⟨N,0,none⟩) n n] 98)) (.cells (madeCells #[.int .i64 0] n) 3);have hzb:((w1.alloc (.cells #[.int .i64 n,.slice (some ⟨N,0,none⟩) n n] 98)).alloc (.cells (madeCells #[.int .i64 0] n) 3)).heap.size=w1.heap.size+2:=by simp
 rw [hza] at hrb;generalize w1.alloc _=wa at *;generalize wa.alloc _=wb at *;have hbc:=below_alloc wb (.cells #[.slice (some ⟨w1.heap.size+1,0,none⟩) n n] 27);have hgc:=bx_new wb #[.slice (some ⟨w1.heap.size+1,0,none⟩) n n] 27;rw [hzb] at hgc;have hbx:=(hba.trans (hbb.mono (by omega))).trans (hbc.mono (by omega));exact ⟨⟨((hN.below' hba (Nat.le_refl _)).below' hbb (by omega)).below' hbc (by omega),(hga.below hbb (by omega)).below hbc (by omega),(hrb.alloc _).congr (fun i _=>rfl),hgc,hb1.trans (hbx.mono hb1.size),hb1.size,by simp; omega⟩,hbx⟩
structure Marks (B:Nat) (Ds:List Nat) (W:World):Prop where
 nodup:Ds.Nodup
 at_:∀ D,D∈Ds→B≤D∧W.heap[D]? = some (.deferred (some []))
theorem Marks.nil (B:Nat) (W:World):Marks B [] W:=⟨List.nodup_nil,fun _ h=>(by cases h)⟩
theorem Marks.keep {B:Nat} {Ds:List Nat} {W W':World} (h:Marks B Ds W) (hk:∀ (k:Nat) (o:Obj),W.heap[k]? = some o→o.isCells=false→W'.heap[k]? = some o):Marks B Ds W':=
 ⟨h.nodup,fun D hD=>⟨(h.at_ D hD).1,hk D _ (h.at_ D hD).2 rfl⟩⟩
theorem Marks.below {B:Nat} {Ds:List Nat} {W W':World} (h:Marks B Ds W) (hb:Below W.heap.size W W'):Marks B Ds W':=
 h.keep fun k _ ho _=>(hb.block k (Array.getElem?_eq_some_iff.1 ho).1).trans ho
theorem Marks.row {B b t n:Nat} {Ds:List Nat} {W:World} {f:Nat→Value} (h:Marks B Ds W) (hr:W.rowIs b t n f) (x:Nat) (v:Value):Marks B Ds (W.setCell ⟨b,x,none⟩ v):=
 h.keep fun k o ho hc=>(heap_setCell_other _ _ _ _ (fun e=>by
  obtain ⟨c,hb,-,-⟩:=hr;have e2:k=b:=e;subst e2;rw [hb] at ho; injection ho with ho; subst ho; cases hc)).trans ho
theorem Marks.push {B D:Nat} {Ds:List Nat} {W:World} (h:Marks B Ds W) (hD:B≤D) (hn:D∉Ds) (hK:W.heap[D]? = some (.deferred (some []))):Marks B (D::Ds) W:=
 ⟨List.nodup_cons.2 ⟨hn,h.nodup⟩,fun x hx=>by
  rcases List.mem_cons.1 hx with e | e
  ·subst e; exact ⟨hD,hK⟩
  ·exact h.at_ x e⟩
def markD (D:Nat):Deferred:={ target:=.collected D,args:=#[] }
structure Taken (Ds:List Nat) (W W':World):Prop where
 os:W'.os=W.os
 tape:W'.tape=W.tape
 output:W'.output=W.output
 size:W'.heap.size=W.heap.size
 block:∀ k,k∉Ds→W'.heap[k]? = W.heap[k]?
theorem leaves_marks {F:Fence} {n B:Nat} {P:Program} {fn:Func} {tmps:Array Value} {R:Ending→World→Prop}:∀ (Ds:List Nat) (W:World),Marks B Ds W →
  (∀ W',Taken Ds W W'→∃ v,(results fn tmps).run P W'=.ok v W'∧R (.returned v) W')→LeavesInM F n P fn tmps R (Ds.map markD) .returning W:=by
 intro Ds
 induction Ds with
 | nil=>exact fun W _ h=>h W ⟨rfl,rfl,rfl,rfl,fun _ _=>rfl⟩
 | cons D Ds ih=>
  intro W hM h;obtain ⟨-,hK⟩:=hM.at_ D (by simp);have hnd:=List.nodup_cons.1 hM.nodup;refine ⟨by simp,.inl ⟨D,_,rfl,run_takeDeferred hK,ih _ ⟨hnd.2,fun x hx=>?_⟩ (fun W' hT=>h W' ⟨hT.os,hT.tape,hT.output,?_,fun k hk=>?_⟩)⟩⟩
  ·have hne:x≠D:=fun e=>by subst e; exact hnd.1 hx
   exact ⟨(hM.at_ x (by simp [hx])).1,(World.putObj_heap_other hne).trans (hM.at_ x (by simp [hx])).2⟩
  ·exact hT.size.trans (by simp)
  ·have hk2:k≠D∧k∉Ds:=by simpa using hk
   exact (hT.block k hk2.2).trans (World.putObj_heap_other hk2.1)
theorem Taken.below {B:Nat} {Ds:List Nat} {W W':World} (h:Taken Ds W W') (hM:Marks B Ds W):Below B W W':=
 ⟨h.os,h.tape,h.output,Nat.le_of_eq h.size.symm,fun k hk=>h.block k (fun hm=>by have:=(hM.at_ k hm).1; omega)⟩
theorem Taken.own {B base e size n:Nat} {Ds:List Nat} {W W':World} {v:Value} {xs:List Value} (h:Taken Ds W W') (hM:Marks B Ds W) (ho:W.ownsRow base e size v n xs):W'.ownsRow base e size v n xs:=by
 refine ⟨ho.1,?_⟩;rcases ho.2 with h1 | ⟨g,cap,cur,e1,hb,hg,rest⟩
 ·exact .inl h1
 ·refine .inr ⟨g,cap,cur,e1,hb,(h.block g (fun hm=>?_)).trans hg,rest⟩
  rw [(hM.at_ g hm).2] at hg; cases hg
end
end Go.Proofs.YtkpjdanfpolimaaGreat
