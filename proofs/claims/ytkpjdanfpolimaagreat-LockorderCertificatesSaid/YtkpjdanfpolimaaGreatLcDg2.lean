/- digraph's build, walked: the successors of a valid graph in memory. Conditions: the edges are in range and strictly ascending. -/
import Derived.Test.YtkpjdanfpolimaaGreatLcDg0
import Derived.Deep.RegionHeld
import Derived.Deep.CutRange
import Derived.Laws.Rows
set_option linter.unusedSimpArgs false
set_option maxRecDepth 100000
set_option maxHeartbeats 3200000
namespace Go.Proofs.YtkpjdanfpolimaaGreat
open Go.RowKit
theorem intInfo:(Tryz.prog.info? 3).map (fun i=>(i.zero,i.size,i.bytes))=some (some (.int .i64 0),1,8):=by kernel_rfl
structure Rws (W:World) (B N n:Nat) (r:Nat→List Nat) (v:Nat→Value):Prop where
 lt:N<B
 row:W.rowIs N 27 n v
 own:∀ u,u<n→W.ownsRow B 3 1 (v u) (r u).length (natC (r u))
 far:∀ u u',u<n→u'<n→u≠u'→(v u).ownBlock=none∨(v u).ownBlock≠(v u').ownBlock
theorem Rws.below {W W':World} {B N n:Nat} {r:Nat→List Nat} {v:Nat→Value} (h:Rws W B N n r v) (hb:Below W.heap.size W W'):Rws W' B N n r v:=
 ⟨h.lt,h.row.of_block (hb.block _ h.row.lt),fun u hu=>World.ownsRow.kept (h.own u hu) (row:=none) ⟨hb.os,hb.tape,hb.output,hb.size,fun k hk _=>hb.block k hk⟩ (by cases (v u).ownBlock <;> simp),h.far⟩
theorem natC_push (l:List Nat) (x:Nat):natC (l++[x])=natC l++[.int .i64 x]:=by simp [natC]
theorem Rws.push {W1 W3:World} {B N n:Nat} {r:Nat→List Nat} {v:Nat→Value} (h:Rws W1 B N n r v) {u x:Nat} (hu:u<n) {v':Value}
  (ho:W3.ownsRow B 3 1 v' ((r u).length+1) (natC (r u)++[.int .i64 x])) (hg:W1.grownBy W3 (v u).ownBlock) (hv:v'.ownBlock=(v u).ownBlock∨v'.ownBlock=some W1.heap.size) :
  Rws (W3.setCell ⟨N,u,none⟩ v') B N n (fun j=>if j=u then r u++[x] else r j) (fun j=>if j=u then v' else v j):=by
 have hN:some N≠(v u).ownBlock:=fun e=>by have:=((h.own u hu).lt N e.symm).1; have:=h.lt; omega
 have hgs:W3.grownBy (W3.setCell ⟨N,u,none⟩ v') (some N):=⟨rfl,rfl,rfl,by simp,fun b _ hb=>heap_setCell_other _ _ _ _ (fun e=>hb (by rw [e]))⟩
 have hne:∀ (v2:Value) (m:Nat) (xs:List Value) (W:World),W.ownsRow B 3 1 v2 m xs→v2.ownBlock≠some N:=fun v2 m xs W ho e=>by have:=(ho.lt N e).1; have:=h.lt; omega
 refine ⟨h.lt,(h.row.of_block (hg.block _ h.row.lt hN)).set u v',fun j hj=>?_,fun j k hj hk hjk=>?_⟩
 ·by_cases e:j=u
  ·subst e
   simp only [if_true];rw [List.length_append,natC_push];exact ho.kept hgs (.inr (hne _ _ _ _ ho))
  ·simp only [e,if_false]
   exact ((h.own j hj).kept hg (h.far j u hj hu e)).kept hgs (.inr (hne _ _ _ _ (h.own j hj)))
 ·have hlt:∀ j,j<n→(v j).ownBlock≠some W1.heap.size:=fun j hj e=>by have:=((h.own j hj).lt _ e).2; omega
  by_cases e1:j=u
  ·subst e1
   have e2:k≠j:=fun z=>hjk z.symm
   simp only [if_true,e2,if_false];rcases hv with hv | hv
   ·rw [hv]; exact h.far j k hj hk hjk
   ·rw [hv]; exact .inr (fun z=>hlt k hk z.symm)
  ·by_cases e2:k=u
   ·subst e2
    simp only [e1,if_false,if_true];rcases hv with hv | hv
    ·rw [hv]; exact h.far j k hj hk hjk
    ·rw [hv]; exact .inr (hlt j hj)
   ·simp only [e1,e2,if_false]
    exact h.far j k hj hk hjk
theorem Rws.net {W:World} {B N n:Nat} {l:List (Nat × Nat)} {v:Nat→Value} (h:Rws W B N n (succs l) v):Net W W.heap.size N n l:=by
 have H:∀ u,∃ p:Option Addr × Nat,u<n→W.cell? ⟨N,u,none⟩=some (.slice p.1 (succs l u).length p.2)∧Nts W W.heap.size p.1 (succs l u):=fun u=>by
  by_cases hu:u<n
  ·have ho:=h.own u hu
   obtain ⟨A,c,e⟩:=own_form ho;rw [e] at ho;exact ⟨(A,c),fun _=>⟨by rw [h.row.cell hu,e],Rd.of_own ho⟩⟩
  ·exact ⟨(none,0),fun z=>absurd z hu⟩
 obtain ⟨f,hf⟩:=Classical.axiomOfChoice H;exact ⟨h.row.lt,fun u=>(f u).1,fun u=>(f u).2,hf⟩
theorem step_app {P:Program} {ops:Array Oper} {o:Oper} {a:Act} {w w':World} {K:Act→World→Prop} {Q:Exit→Act→World→Prop} {E:Prop} {v' v y:Value}
  (hg:o.guard=none) (s x:Operand) (t:TypeId) (hop:o.op=Op.call { callee:=Callee.builtin Builtin.append,args:=#[s,x],argTypes:=#[t,t] }) (hs:a.eval s=v) (hx:a.eval x=y)
  (hrun:(Builtin.append_ #[t,t] o.type #[v,y]).run P w=.ok v' w') (h:K (a.put o.dst v') w'):if Region.wanted o (yielded ops a.tmps)=true then Oper.wp P o a w K Q else E:=by
 rw [if_pos (by simp [Region.wanted,hg])];unfold Oper.wp;simp [execOp,hop,resolve,invoke,builtin,hs,hx,hrun,Result.andThen];exact h
theorem run_map9 {P:Program} {α β:Type} (f:α→β) (m:Sem α) (w:World):(f <$> m).run P w=(m.run P w).andThen fun a w=>.ok (f a) w:=by
 show (m >>= fun a=>pure (f a)).run P w=_;rw [Sem.run_bind]; rfl
theorem results_cellt {fn:Func} {a b:Tmp} {t:TypeId} (h:fn.results=#[.cell a t,.tmp b]) {tmps:Array Value} {P:Program} {w:World} {pa:Addr} {va:Value}
  (ha:tmps.getD a undef=.pointer (some pa)) (hva:(loadVar t pa).run P w=.ok va w):(results fn tmps).run P w=.ok (.tuple #[va,tmps.getD b undef]) w:=by
 have hx:(asAddr (.pointer (some pa))).run P w=.ok pa w:=rfl;have hp:∀ {α:Type} (x:α) (w:World),(pure x:Sem α).run P w=.ok x w:=fun _ _=>rfl
 unfold results;rw [h];simp only [List.mapM_toArray,List.mapM_cons,List.mapM_nil,Sem.run_bind,run_map9,ha,hx,hva,Result.andThen,hp];rfl
theorem build_ok (n:Nat) (A:Option Addr) (c:Nat) (l:List (Nat × Nat)) (hn:n≤200) (hl:l.length≤2000) (hr:EdR n l) (hs:Strict l) (w:World) (h:Eds w w.heap.size A l) :
  Calls Tryz.prog 52 #[.int .i64 n,.slice A l.length c] w fun e W=>∃ N,e=.returned (.tuple #[netV n N,.bool true])∧Net W W.heap.size N n l∧w.heap.size≤N∧Below w.heap.size w W:=by
 obtain ⟨i0,hi,hz⟩:=Option.map_eq_some_iff.1 intInfo;have hz0:i0.zero=some (.int .i64 0):=congrArg (fun t=>t.1) hz;have hz1:i0.size=1:=congrArg (fun t=>t.2.1) hz;have hz2:i0.bytes=8:=congrArg (fun t=>t.2.2) hz;clear hz;have HCK:=hid (fun (W:World) (hb:Below w.heap.size w W)=>dgCheck_ok n A c l hn hl hr hs W (Rd.more (h.below hb) hb.size));have hmk:=fun W=>run_make_row' (P:=Tryz.prog) 35 27 (.slice none 0 0) 24 Tryz.underlying35 (by kernel_rfl) rfl .i64 .i64 n (by omega) (by omega) W
 go_enter Tryz.func52,Tryz.ntmps52;go_wp2_with fail;have hb0:=below_alloc w (.cells #[.int .i64 0,.slice none 0 0] 98);refine (HCK.out _ hb0).mono ?_;rintro e w2 ⟨rfl,hb2⟩;have hR:=fun k (v:Value) hk=>(hb2.cell (block_lt_of_cell hk)).trans (show (w.alloc (.cells #[.int .i64 0,.slice none 0 0] 98)).cell? ⟨w.heap.size,k,none⟩=some v from hk)
 have r0:=hR 0 _ (bx_new2 w _ _ _).1;have r1:=hR 1 _ (bx_new2 w _ _ _).2;have hb:=hb0.trans (hb2.mono (by simp));have hz:=hb2.size;rw [World.size_alloc] at hz;have hRo:w2.heap[w.heap.size]? = some (.cells #[.int .i64 0,.slice none 0 0] 98 (0,0)):=(hb2.block _ (by simp)).trans (heap_alloc_new w _);clear hb0 hb2 hR;go_upto_region 4 with fail
 have hRW:Rws ((w2.alloc (.cells (madeCells #[.slice none 0 0] n) 27)).alloc (.cells #[.int .i64 n,.slice (some ⟨w2.heap.size,0,none⟩) n n] 98)) (w2.heap.size+2) w2.heap.size n (succs (l.take 0)) (fun _=>.slice none 0 0):=
  ⟨by omega,(World.rowIs_made w2 _ n _).alloc _,fun u hu=>World.ownsRow_nil _ _ _ _,fun u u' _ _ _=>.inl rfl⟩
 have hGo:=heap_alloc_new (w2.alloc (.cells (madeCells #[.slice none 0 0] n) 27)) (.cells #[.int .i64 n,.slice (some ⟨w2.heap.size,0,none⟩) n n] 98);have hba:Below w2.heap.size w2 ((w2.alloc (.cells (madeCells #[.slice none 0 0] n) 27)).alloc (.cells #[.int .i64 n,.slice (some ⟨w2.heap.size,0,none⟩) n n] 98)):=(below_alloc _ _).trans (below_alloc2 (by simp) _);have hRa:=(hba.block w.heap.size (by omega)).trans hRo;have hbw:=hb.trans (hba.mono hb.size);have hza:((w2.alloc (.cells (madeCells #[.slice none 0 0] n) 27)).alloc (.cells #[.int .i64 n,.slice (some ⟨w2.heap.size,0,none⟩) n n] 98)).heap.size=w2.heap.size+2:=by simp
 rw [World.size_alloc] at hGo;clear hRo hba hb r0 r1 hmk;generalize World.alloc _ _=wa at hRW hGo hRa hbw hza ⊢;generalize w2.heap.size=N at hRW hGo hza hz ⊢;go_upto_region 5 with fail;go_loopw [8,20] (fun _ i wr=>∃ (k:Nat) (v:Nat→Value),i=.int .i64 k∧k≤l.length∧Rws wr (N+2) N n (succs (l.take k)) v∧wr.heap[N+1]? = some (.cells #[.int .i64 n,.slice (some ⟨N,0,none⟩) n n] 98 (0,0))∧wr.heap[w.heap.size]? = some (.cells #[.int .i64 0,.slice none 0 0] 98 (0,0))∧Below w.heap.size w wr) (fun _ i _=>l.length - (intOf i).toNat)
 case atStart=>exact ⟨0,_,rfl,by omega,hRW,hGo,hRa,hbw⟩
 case round=>
  clear hRW hGo hRa hbw hza;obtain ⟨k,v,rfl,hk,hRW,hGo,hRo,hb⟩:=hrel;have hk0:=zi k;have hwr:=Wi k (by omega);by_cases hlt:k<l.length
  ·have hd1:=Dt (show (k:Int)<l.length by omega)
   have hd2:=Dt hlt;have hjl:(k:Int)<(l.length:Int):=by omega
   obtain ⟨b,off,rfl,had,h1,h2⟩:=(h.below hb).at_ hlt;have hrk:=hr _ (List.getElem_mem hlt);have HTK:=hid (show l.take (k+1)=l.take k++[l[k]] by rw [List.take_add_one,List.getElem?_eq_getElem hlt]; rfl);generalize l[k]=x at h1 h2 hrk HTK;obtain ⟨x1,x2⟩:=x;dsimp only at h1 h2 hrk;obtain ⟨hx1,hx2⟩:=hrk;go_upto_region 7 with fail;have hNR:N+1<wr.heap.size:=(Array.getElem?_eq_some_iff.1 hGo).1;have hRR:w.heap.size<N:=by omega
   have hba:=below_alloc wr (.cells #[.int .i64 x1,.int .i64 x2] 47);obtain ⟨e0,e1⟩:=bx_new2 wr (.int .i64 x1) (.int .i64 x2) 47;have hRWa:=hRW.below hba;have hvE:(v x1).ownBlock≠some wr.heap.size:=fun e=>by have:=((hRW.own x1 hx1).lt _ e).2; omega
   have hvG:(v x1).ownBlock≠some (N+1):=fun e=>by have:=((hRW.own x1 hx1).lt _ e).1; omega
   have hvN:(v x1).ownBlock≠some N:=fun e=>by have:=((hRW.own x1 hx1).lt _ e).1; omega
   have hvR:(v x1).ownBlock≠some w.heap.size:=fun e=>by have:=((hRW.own x1 hx1).lt _ e).1; omega
   have hvB:∀ g,(v x1).ownBlock=some g→w.heap.size≤g:=fun g e=>by have:=((hRW.own x1 hx1).lt _ e).1; omega
   have hGa:=(hba.block _ hNR).trans hGo;have hRa:=(hba.block _ (by omega)).trans hRo;have hbwa:=hb.trans (hba.mono hb.size);have hza:(wr.alloc (.cells #[.int .i64 x1,.int .i64 x2] 47)).heap.size=wr.heap.size+1:=by simp
   clear hRW hGo hRo hb h1 h2 hba;generalize wr.alloc _=wa at e0 e1 hRWa hGa hRa hbwa hza ⊢;generalize wr.heap.size=E at e0 e1 hvE hza hNR ⊢
   have HK:Hid (∀ (W:World) (q:Obj),(W.cell? ⟨N+1,1,none⟩=some (.slice (some ⟨N,0,none⟩) n n)∧W.cell? ⟨E,0,none⟩=some (.int .i64 x1)∧W.cell? ⟨E,1,none⟩=some (.int .i64 x2))→((W.alloc q).cell? ⟨N+1,1,none⟩=some (.slice (some ⟨N,0,none⟩) n n)∧(W.alloc q).cell? ⟨E,0,none⟩=some (.int .i64 x1)∧(W.alloc q).cell? ⟨E,1,none⟩=some (.int .i64 x2))):=
    hid (fun W q h=>⟨((below_alloc W q).cell (block_lt_of_cell h.1)).trans h.1,((below_alloc W q).cell (block_lt_of_cell h.2.1)).trans h.2.1,((below_alloc W q).cell (block_lt_of_cell h.2.2)).trans h.2.2⟩)
   have g1:wa.cell? ⟨N+1,1,none⟩=some (.slice (some ⟨N,0,none⟩) n n):=by simp [World.cell?,hGa]
   refine wp_region_held_drew (S:=fun W=>W.cell? ⟨N+1,1,none⟩=some (.slice (some ⟨N,0,none⟩) n n)∧W.cell? ⟨E,0,none⟩=some (.int .i64 x1)∧W.cell? ⟨E,1,none⟩=some (.int .i64 x2)) (by kernel_rfl) ⟨g1,e0,e1⟩ (fun hHeld=>?_);have hRWd:Rws wa.drew (N+2) N n (succs (l.take k)) v:=hRWa.below ⟨rfl,rfl,rfl,Nat.le_refl _,fun _ _=>rfl⟩;have hGd:wa.drew.heap[N+1]? = _:=hGa;have hRd:wa.drew.heap[w.heap.size]? = _:=hRa;have hbd:=hbwa.drew;have hzd:wa.drew.heap.size=E+1:=hza;have hSd:wa.drew.cell? ⟨N+1,1,none⟩=some (.slice (some ⟨N,0,none⟩) n n)∧wa.drew.cell? ⟨E,0,none⟩=some (.int .i64 x1)∧wa.drew.cell? ⟨E,1,none⟩=some (.int .i64 x2):=⟨g1,e0,e1⟩
   clear hRWa hGa hRa hbwa hza e0 e1 g1;generalize wa.drew=wd at hRWd hGd hRd hbd hzd hSd hHeld ⊢;have hX0:=zi x1;have hX1:(x1:Int)<(n:Int):=by omega
   have c0:=hRWd.row.cell hx1;have c1:=((below_alloc wd (.cells #[.int .i64 x2] 3)).cell (block_lt_of_cell c0)).trans c0;have hsl:=succs_len (l.take k) x1;rw [List.length_take] at hsl
   obtain ⟨v',W3,hrun,hown3,hgr3,hnil3,hob3⟩:=run_append_own_at (P:=Tryz.prog) (w:=wd.alloc (.cells #[.int .i64 x2] 3)) (N+2) 27 27 3 i0 (.int .i64 0) 1 8 Tryz.underlying27 hi hz0 hz1 hz2 rfl (by omega) (v x1) _ _ ((hRWd.own x1 hx1).alloc _) ⟨E+1,0,none⟩ 1 1 [.int .i64 x2] rfl (fun q u hq=>by
    match q,hq with
    | 0,hq=>simp only [List.getElem?_cons_zero] at hq; injection hq with hq; subst hq; rw [← hzd]; simp [Addr.add]) (fun u hu=>by simp only [List.mem_singleton] at hu; subst hu; rfl) (by unfold maxLen; omega) (by omega) (by simp; omega)
   obtain ⟨ga,ca,rfl⟩:=own_form hown3;obtain ⟨v',hv'⟩:∃ v',v'=Value.slice ga ((succs (l.take k) x1).length+1) ca:=⟨_,rfl⟩
   rw [← hv'] at hown3 hob3;have hbA:=below_alloc wd (.cells #[.int .i64 x2] 3);have hRW2:=hRWd.below hbA;have hRW4:=hRW2.push hx1 hown3 hgr3 hob3;have hSA:=HK.out wd (.cells #[.int .i64 x2] 3) hSd;have hS3:W3.cell? ⟨N+1,1,none⟩=some (.slice (some ⟨N,0,none⟩) n n)∧W3.cell? ⟨E,0,none⟩=some (.int .i64 x1)∧W3.cell? ⟨E,1,none⟩=some (.int .i64 x2):=⟨hgr3.cell hSA.1 (fun e=>hvG e.symm),hgr3.cell hSA.2.1 (fun e=>hvE e.symm),hgr3.cell hSA.2.2 (fun e=>hvE e.symm)⟩
   have c3:=hgr3.cell c1 (fun e=>hvN e.symm);have f3:W3.frozen? ⟨N,x1,none⟩=false:=(World.frozen?_of_block (hgr3.block N (by simp; omega) (fun e=>hvN e.symm))).trans (hRW2.row.frozen x1)
   have hS4:(W3.setCell ⟨N,x1,none⟩ v').cell? ⟨N+1,1,none⟩=some (.slice (some ⟨N,0,none⟩) n n)∧(W3.setCell ⟨N,x1,none⟩ v').cell? ⟨E,0,none⟩=some (.int .i64 x1)∧(W3.setCell ⟨N,x1,none⟩ v').cell? ⟨E,1,none⟩=some (.int .i64 x2):=
    ⟨(World.cell?_setCell_far _ _ _ _ (by show N≠N+1; omega)).trans hS3.1,(World.cell?_setCell_far _ _ _ _ (by show N≠E; omega)).trans hS3.2.1,(World.cell?_setCell_far _ _ _ _ (by show N≠E; omega)).trans hS3.2.2⟩
   have hG4:(W3.setCell ⟨N,x1,none⟩ v').heap[N+1]? = some (.cells #[.int .i64 n,.slice (some ⟨N,0,none⟩) n n] 98 (0,0)):=(heap_setCell_other _ _ _ _ (by show N+1≠N; omega)).trans ((hgr3.block _ (by simp; omega) (fun e=>hvG e.symm)).trans ((hbA.block _ (by omega)).trans hGd));have hR4:(W3.setCell ⟨N,x1,none⟩ v').heap[w.heap.size]? = some (.cells #[.int .i64 0,.slice none 0 0] 98 (0,0)):=(heap_setCell_other _ _ _ _ (by show w.heap.size≠N; omega)).trans ((hgr3.block _ (by simp; omega) (fun e=>hvR e.symm)).trans ((hbA.block _ (by omega)).trans hRd));have hb4:Below w.heap.size w (W3.setCell ⟨N,x1,none⟩ v'):=((hbd.trans (hbA.mono hbd.size)).grown hgr3 (by simp; omega) hvB).setCell (p:=⟨N,x1,none⟩) (by show w.heap.size≤N; omega) _
   have HS4:Hid (∀ u,u<n→(if u=x1 then succs (l.take k) x1++[x2] else succs (l.take k) u)=succs (l.take (k+1)) u):=hid (fun u _=>by
    rw [HTK.out,succs_append,succs_one];by_cases e:u=x1
    ·subst e; simp
    ·rw [if_neg e,if_neg (fun z=>e z.symm)]; simp)
   have hRW5:Rws (W3.setCell ⟨N,x1,none⟩ v') (N+2) N n (succs (l.take (k+1))) (fun j=>if j=x1 then v' else v j):=⟨hRW4.lt,hRW4.row,fun u hu=>by rw [← HS4.out u hu]; exact hRW4.own u hu,hRW4.far⟩
   rw [hv'] at hRW5 hS4 hG4 hR4 hb4;clear hRWd hGd hRd hbd hRW2 hRW4 hbA hgr3 hown3 hnil3 hob3 hSd hSA HS4 HTK;rename_i K hK;refine (fun key:K ?aa ?ww=>?body) ?key
   case body=>
    refine tkH 0 rfl ?_;try simp only [frS,Act.put]
    refine tkH 1 rfl ?_;try simp only [frS,Act.put]
    refine tkH 2 rfl ?_;try simp only [frS,Act.put]
    refine tkH 3 rfl ?_;try simp only [frS,Act.put]
    refine tkH 4 rfl ?_;try simp only [frS,Act.put]
    refine tkH 5 rfl ?_;try simp only [frS,Act.put]
    refine tkH 6 rfl ?_;try simp only [frS,Act.put]
    refine tkH 7 rfl ?_;try simp only [frS,Act.put]
    refine tkH 8 rfl ?_;try simp only [frS,Act.put]
    refine tkH 10 rfl ?_;try simp only [frS,Act.put]
    refine tkH 11 rfl ?_;try simp only [frS,Act.put]
    refine wpAnyH_ready (rs:=[9,12]) (by kernel_rfl) (by simp) ?_;refine (AllReadyH.cons rfl (fun K hK=>?_) (AllReadyH.cons rfl (fun K hK=>?_) AllReadyH.nil))
    ·go_simp
     refine hK.out _ _ ?_ (fun hHeld=>?_)
     ·exact hHeld
     clear hK K;try simp only [frS,Act.put]
     refine rdH 12 rfl fun K hK=>?_
     go_simp;refine hK.out _ _ ?_ (fun hHeld=>?_)
     ·exact HK.out _ _ hHeld
     clear hK K;try simp only [frS,Act.put]
     refine rdH 13 rfl fun K hK=>?_
     refine step_app rfl (.tmp 33) (.tmp 36) _ rfl rfl rfl hrun ?_;refine hK.out _ _ ?_ (fun hHeld=>?_)
     ·exact hS3
     clear hK K;try simp only [frS,Act.put]
     refine tkH 14 rfl ?_;try simp only [frS,Act.put]
     refine rdH 15 rfl fun K hK=>?_
     go_simp;refine hK.out _ _ ?_ (fun hHeld=>?_)
     ·exact hS4
     clear hK K;try simp only [frS,Act.put]
     refine wpAnyH_done (by kernel_rfl) ?_ _;exact key
    ·go_simp
     refine hK.out _ _ ?_ (fun hHeld=>?_)
     ·exact HK.out _ _ hHeld
     clear hK K;try simp only [frS,Act.put]
     refine rdH 9 rfl fun K hK=>?_
     go_simp;refine hK.out _ _ ?_ (fun hHeld=>?_)
     ·exact hHeld
     clear hK K;try simp only [frS,Act.put]
     refine rdH 13 rfl fun K hK=>?_
     refine step_app rfl (.tmp 33) (.tmp 36) _ rfl rfl rfl hrun ?_;refine hK.out _ _ ?_ (fun hHeld=>?_)
     ·exact hS3
     clear hK K;try simp only [frS,Act.put]
     refine tkH 14 rfl ?_;try simp only [frS,Act.put]
     refine rdH 15 rfl fun K hK=>?_
     go_simp;refine hK.out _ _ ?_ (fun hHeld=>?_)
     ·exact hS4
     clear hK K;try simp only [frS,Act.put]
     refine wpAnyH_done (by kernel_rfl) ?_ _;exact key
   refine hK _ _ ?_;clear hK K hHeld hrun c0 c1 c3 f3 hS3 hS4 hzd;generalize W3.setCell ⟨N,x1,none⟩ _=wn at hRW5 hG4 hR4 hb4 ⊢;go_wp2_with fail;go_round
   case rel=>exact ⟨k+1,_,rfl,by omega,hRW5,hG4,hR4,hb4⟩
   case measure=>exact ms (by omega)
  ·have hd1:=Df (show ¬ (k:Int)<l.length by omega)
   have hd2:=Df hlt;have g0:wr.cell? ⟨N+1,0,none⟩=some (.int .i64 n):=by simp [World.cell?,hGo]
   have g1:wr.cell? ⟨N+1,1,none⟩=some (.slice (some ⟨N,0,none⟩) n n):=by simp [World.cell?,hGo]
   have r0:wr.cell? ⟨w.heap.size,0,none⟩=some (.int .i64 0):=by simp [World.cell?,hRo]
   have r1:wr.cell? ⟨w.heap.size,1,none⟩=some (.slice none 0 0):=by simp [World.cell?,hRo]
   have f0:wr.frozen? ⟨w.heap.size,0,none⟩=false:=by simp [World.frozen?,hRo]
   have f1:wr.frozen? ⟨w.heap.size,1,none⟩=false:=by simp [World.frozen?,hRo]
   go_wp2_with fail;have hkl:l.take k=l:=List.take_of_length_le (by omega);rw [hkl] at hRW;have hNR:N+1<wr.heap.size:=(Array.getElem?_eq_some_iff.1 hGo).1;have hg:wr.grownBy ((wr.setCell ⟨w.heap.size,0,none⟩ (.int .i64 n)).setCell ⟨w.heap.size,1,none⟩ (.slice (some ⟨N,0,none⟩) n n)) (some w.heap.size):=⟨rfl,rfl,rfl,by simp,fun q _ hq=>(heap_setCell_other _ _ _ _ (fun e=>hq (by rw [e]))).trans (heap_setCell_other _ _ _ _ (fun e=>hq (by rw [e])))⟩
   have hRW6:Rws ((wr.setCell ⟨w.heap.size,0,none⟩ (.int .i64 n)).setCell ⟨w.heap.size,1,none⟩ (.slice (some ⟨N,0,none⟩) n n)) (N+2) N n (succs l) v:=
    ⟨hRW.lt,hRW.row.of_block (hg.block _ (by omega) (by simp; omega)),fun u hu=>(hRW.own u hu).kept hg (.inr (fun e=>by have:=((hRW.own u hu).lt _ e).1; omega)),hRW.far⟩
   refine bodyPost_ret (results_cellt rfl rfl (run_loadVar_row (P:=Tryz.prog) _ w.heap.size 98 98 #[.int .i64 n,.slice (some ⟨N,0,none⟩) n n] (0,0) _ ?_ Tryz.underlying98 rfl (by kernel_rfl))) rfl ?_
   ·simp [World.setCell,Array.getElem?_modify,hRo]
   ·exact ⟨N,rfl,hRW6.net,by omega,(hb.setCell (p:=⟨w.heap.size,0,none⟩) (Nat.le_refl _) _).setCell (p:=⟨w.heap.size,1,none⟩) (Nat.le_refl _) _⟩
end Go.Proofs.YtkpjdanfpolimaaGreat
